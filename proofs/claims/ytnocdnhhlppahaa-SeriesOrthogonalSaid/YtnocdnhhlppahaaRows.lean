/-
  No cell of these rows narrows 'for every input' (looked for: loops, veiled, ifaces, maps, wideKeys, modest, calm, conditions, laid).
  DERIVED. THE GIVEN ROWS OF THIS SEAT. 12 by the template 'for every input the law returns true; each argument reads behind the call as it read before'; 0 by the template 'total and deterministic' (their statements: YtnocdnhhlppahaaTotals.lean).
  GIVEN WITH THE SEED: the statements are not yours to turn. If you find one false, say at which input.
  Laid BY PROGRAM, IN A SANDBOX (cutbox-rows.mjs): the forced cells as the released guide's own fill.sh prints them over the translation 85c787600d8b3284… (all of the seat's roots in one cut). By AI agents, Wed Nov 11 2026. No macro, syntax, notation, axiom, sorry.
-/
import Derived.Test.YtnocdnhhlppahaaChecked
import GoSem.Claim
import GoSem.ClaimJoined
import GoSem.ClaimMapViews
import Derived.JoinedTies
import Derived.KernelRfl
namespace Go.Proofs.Ytnocdnhhlppahaa
/- THE CELL 'sum', in the pinned program and in every row, IS THE sha256 OF THE DUMP (.gsa) THAT YtnocdnhhlppahaaProg.lean LOADS. Nothing in Lean hashes anything: it is a label: what it is worth is what the hold of that sum in a sandbox is worth. -/
noncomputable def Try.pinned : Pinned := { name := "ytnocdnhhlppahaa", sum := "85c787600d8b32840b207029b6787c8a21cd4521f5338ae02378233bf61aac3a", checked := Try.checked }
namespace Rows
def none {H : Type} : Left H := { results := [], args := [] }

/-- 'swathlaw08.SeriesSolves': WHATEVER THE INPUT: true; the input reads as it did. -/
def seriesSolvesSpec : ChangeSpec := { name := "seriesSolves", fn := fun _ => fun
  | [d1, d2] => { results := [.lit (.bool true)], args := [d1, d2] }
  | _ => none }
def seriesSolvesRow : OpenClaim := { program := "ytnocdnhhlppahaa", sum := "85c787600d8b32840b207029b6787c8a21cd4521f5338ae02378233bf61aac3a", func := "swath/swathlaw08.SeriesSolves", spec := "seriesSolves", unfollowed := true, recurses := true, apart := false }
def SeriesSolvesSaid : Prop := seriesSolvesRow.holds Try.pinned (OpenSpec.ofChange seriesSolvesSpec)

/-- ITS FALSE NEIGHBOUR: 'it returns false'. Refute it at one input. -/
def seriesSolvesWrong : ChangeSpec := { name := "seriesSolves", fn := fun _ => fun
  | [d1, d2] => { results := [.lit (.bool false)], args := [d1, d2] }
  | _ => none }
def SeriesSolvesWrongFalsely : Prop := seriesSolvesRow.holds Try.pinned (OpenSpec.ofChange seriesSolvesWrong)

/-- 'swathlaw08.SeriesSeen': WHATEVER THE INPUT: true; the input reads as it did. -/
def seriesSeenSpec : ChangeSpec := { name := "seriesSeen", fn := fun _ => fun
  | [d1, d2] => { results := [.lit (.bool true)], args := [d1, d2] }
  | _ => none }
def seriesSeenRow : OpenClaim := { program := "ytnocdnhhlppahaa", sum := "85c787600d8b32840b207029b6787c8a21cd4521f5338ae02378233bf61aac3a", func := "swath/swathlaw08.SeriesSeen", spec := "seriesSeen", unfollowed := true, recurses := true, apart := false }
def SeriesSeenSaid : Prop := seriesSeenRow.holds Try.pinned (OpenSpec.ofChange seriesSeenSpec)

/-- ITS FALSE NEIGHBOUR: 'it returns false'. Refute it at one input. -/
def seriesSeenWrong : ChangeSpec := { name := "seriesSeen", fn := fun _ => fun
  | [d1, d2] => { results := [.lit (.bool false)], args := [d1, d2] }
  | _ => none }
def SeriesSeenWrongFalsely : Prop := seriesSeenRow.holds Try.pinned (OpenSpec.ofChange seriesSeenWrong)

/-- 'swathlaw08.SeriesTracks': WHATEVER THE INPUT: true; the input reads as it did. -/
def seriesTracksSpec : ChangeSpec := { name := "seriesTracks", fn := fun _ => fun
  | [d] => { results := [.lit (.bool true)], args := [d] }
  | _ => none }
def seriesTracksRow : OpenClaim := { program := "ytnocdnhhlppahaa", sum := "85c787600d8b32840b207029b6787c8a21cd4521f5338ae02378233bf61aac3a", func := "swath/swathlaw08.SeriesTracks", spec := "seriesTracks", unfollowed := true, recurses := true, apart := false }
def SeriesTracksSaid : Prop := seriesTracksRow.holds Try.pinned (OpenSpec.ofChange seriesTracksSpec)

/-- ITS FALSE NEIGHBOUR: 'it returns false'. Refute it at one input. -/
def seriesTracksWrong : ChangeSpec := { name := "seriesTracks", fn := fun _ => fun
  | [d] => { results := [.lit (.bool false)], args := [d] }
  | _ => none }
def SeriesTracksWrongFalsely : Prop := seriesTracksRow.holds Try.pinned (OpenSpec.ofChange seriesTracksWrong)

/-- 'swathlaw08.SeriesSquares': WHATEVER THE INPUT: true; the input reads as it did. -/
def seriesSquaresSpec : ChangeSpec := { name := "seriesSquares", fn := fun _ => fun
  | [d1, d2] => { results := [.lit (.bool true)], args := [d1, d2] }
  | _ => none }
def seriesSquaresRow : OpenClaim := { program := "ytnocdnhhlppahaa", sum := "85c787600d8b32840b207029b6787c8a21cd4521f5338ae02378233bf61aac3a", func := "swath/swathlaw08.SeriesSquares", spec := "seriesSquares", unfollowed := true, recurses := true, apart := false }
def SeriesSquaresSaid : Prop := seriesSquaresRow.holds Try.pinned (OpenSpec.ofChange seriesSquaresSpec)

/-- ITS FALSE NEIGHBOUR: 'it returns false'. Refute it at one input. -/
def seriesSquaresWrong : ChangeSpec := { name := "seriesSquares", fn := fun _ => fun
  | [d1, d2] => { results := [.lit (.bool false)], args := [d1, d2] }
  | _ => none }
def SeriesSquaresWrongFalsely : Prop := seriesSquaresRow.holds Try.pinned (OpenSpec.ofChange seriesSquaresWrong)

/-- 'swathlaw08.SeriesMoves': WHATEVER THE INPUT: true; the input reads as it did. -/
def seriesMovesSpec : ChangeSpec := { name := "seriesMoves", fn := fun _ => fun
  | [d1, d2, d3] => { results := [.lit (.bool true)], args := [d1, d2, d3] }
  | _ => none }
def seriesMovesRow : OpenClaim := { program := "ytnocdnhhlppahaa", sum := "85c787600d8b32840b207029b6787c8a21cd4521f5338ae02378233bf61aac3a", func := "swath/swathlaw08.SeriesMoves", spec := "seriesMoves", unfollowed := true, recurses := true, apart := false }
def SeriesMovesSaid : Prop := seriesMovesRow.holds Try.pinned (OpenSpec.ofChange seriesMovesSpec)

/-- ITS FALSE NEIGHBOUR: 'it returns false'. Refute it at one input. -/
def seriesMovesWrong : ChangeSpec := { name := "seriesMoves", fn := fun _ => fun
  | [d1, d2, d3] => { results := [.lit (.bool false)], args := [d1, d2, d3] }
  | _ => none }
def SeriesMovesWrongFalsely : Prop := seriesMovesRow.holds Try.pinned (OpenSpec.ofChange seriesMovesWrong)

/-- 'swathlaw08.SeriesVelocities': WHATEVER THE INPUT: true; the input reads as it did. -/
def seriesVelocitiesSpec : ChangeSpec := { name := "seriesVelocities", fn := fun _ => fun
  | [d1, d2, d3] => { results := [.lit (.bool true)], args := [d1, d2, d3] }
  | _ => none }
def seriesVelocitiesRow : OpenClaim := { program := "ytnocdnhhlppahaa", sum := "85c787600d8b32840b207029b6787c8a21cd4521f5338ae02378233bf61aac3a", func := "swath/swathlaw08.SeriesVelocities", spec := "seriesVelocities", unfollowed := true, recurses := true, apart := false }
def SeriesVelocitiesSaid : Prop := seriesVelocitiesRow.holds Try.pinned (OpenSpec.ofChange seriesVelocitiesSpec)

/-- ITS FALSE NEIGHBOUR: 'it returns false'. Refute it at one input. -/
def seriesVelocitiesWrong : ChangeSpec := { name := "seriesVelocities", fn := fun _ => fun
  | [d1, d2, d3] => { results := [.lit (.bool false)], args := [d1, d2, d3] }
  | _ => none }
def SeriesVelocitiesWrongFalsely : Prop := seriesVelocitiesRow.holds Try.pinned (OpenSpec.ofChange seriesVelocitiesWrong)

/-- 'swathlaw08.SeriesResiduals': WHATEVER THE INPUT: true; the input reads as it did. -/
def seriesResidualsSpec : ChangeSpec := { name := "seriesResiduals", fn := fun _ => fun
  | [d1, d2, d3] => { results := [.lit (.bool true)], args := [d1, d2, d3] }
  | _ => none }
def seriesResidualsRow : OpenClaim := { program := "ytnocdnhhlppahaa", sum := "85c787600d8b32840b207029b6787c8a21cd4521f5338ae02378233bf61aac3a", func := "swath/swathlaw08.SeriesResiduals", spec := "seriesResiduals", unfollowed := true, recurses := true, apart := false }
def SeriesResidualsSaid : Prop := seriesResidualsRow.holds Try.pinned (OpenSpec.ofChange seriesResidualsSpec)

/-- ITS FALSE NEIGHBOUR: 'it returns false'. Refute it at one input. -/
def seriesResidualsWrong : ChangeSpec := { name := "seriesResiduals", fn := fun _ => fun
  | [d1, d2, d3] => { results := [.lit (.bool false)], args := [d1, d2, d3] }
  | _ => none }
def SeriesResidualsWrongFalsely : Prop := seriesResidualsRow.holds Try.pinned (OpenSpec.ofChange seriesResidualsWrong)

/-- 'swathlaw08.SeriesOrthogonal': WHATEVER THE INPUT: true; the input reads as it did. -/
def seriesOrthogonalSpec : ChangeSpec := { name := "seriesOrthogonal", fn := fun _ => fun
  | [d1, d2] => { results := [.lit (.bool true)], args := [d1, d2] }
  | _ => none }
def seriesOrthogonalRow : OpenClaim := { program := "ytnocdnhhlppahaa", sum := "85c787600d8b32840b207029b6787c8a21cd4521f5338ae02378233bf61aac3a", func := "swath/swathlaw08.SeriesOrthogonal", spec := "seriesOrthogonal", unfollowed := true, recurses := true, apart := false }
def SeriesOrthogonalSaid : Prop := seriesOrthogonalRow.holds Try.pinned (OpenSpec.ofChange seriesOrthogonalSpec)

/-- ITS FALSE NEIGHBOUR: 'it returns false'. Refute it at one input. -/
def seriesOrthogonalWrong : ChangeSpec := { name := "seriesOrthogonal", fn := fun _ => fun
  | [d1, d2] => { results := [.lit (.bool false)], args := [d1, d2] }
  | _ => none }
def SeriesOrthogonalWrongFalsely : Prop := seriesOrthogonalRow.holds Try.pinned (OpenSpec.ofChange seriesOrthogonalWrong)

/-- 'swathlaw08.SeriesDatums': WHATEVER THE INPUT: true; the input reads as it did. -/
def seriesDatumsSpec : ChangeSpec := { name := "seriesDatums", fn := fun _ => fun
  | [d1, d2] => { results := [.lit (.bool true)], args := [d1, d2] }
  | _ => none }
def seriesDatumsRow : OpenClaim := { program := "ytnocdnhhlppahaa", sum := "85c787600d8b32840b207029b6787c8a21cd4521f5338ae02378233bf61aac3a", func := "swath/swathlaw08.SeriesDatums", spec := "seriesDatums", unfollowed := true, recurses := true, apart := false }
def SeriesDatumsSaid : Prop := seriesDatumsRow.holds Try.pinned (OpenSpec.ofChange seriesDatumsSpec)

/-- ITS FALSE NEIGHBOUR: 'it returns false'. Refute it at one input. -/
def seriesDatumsWrong : ChangeSpec := { name := "seriesDatums", fn := fun _ => fun
  | [d1, d2] => { results := [.lit (.bool false)], args := [d1, d2] }
  | _ => none }
def SeriesDatumsWrongFalsely : Prop := seriesDatumsRow.holds Try.pinned (OpenSpec.ofChange seriesDatumsWrong)

/-- 'swathlaw08.SeriesRemoves': WHATEVER THE INPUT: true; the input reads as it did. -/
def seriesRemovesSpec : ChangeSpec := { name := "seriesRemoves", fn := fun _ => fun
  | [d1, d2, d3] => { results := [.lit (.bool true)], args := [d1, d2, d3] }
  | _ => none }
def seriesRemovesRow : OpenClaim := { program := "ytnocdnhhlppahaa", sum := "85c787600d8b32840b207029b6787c8a21cd4521f5338ae02378233bf61aac3a", func := "swath/swathlaw08.SeriesRemoves", spec := "seriesRemoves", unfollowed := true, recurses := true, apart := false }
def SeriesRemovesSaid : Prop := seriesRemovesRow.holds Try.pinned (OpenSpec.ofChange seriesRemovesSpec)

/-- ITS FALSE NEIGHBOUR: 'it returns false'. Refute it at one input. -/
def seriesRemovesWrong : ChangeSpec := { name := "seriesRemoves", fn := fun _ => fun
  | [d1, d2, d3] => { results := [.lit (.bool false)], args := [d1, d2, d3] }
  | _ => none }
def SeriesRemovesWrongFalsely : Prop := seriesRemovesRow.holds Try.pinned (OpenSpec.ofChange seriesRemovesWrong)

/-- 'swathlaw08.SeriesScreens': WHATEVER THE INPUT: true; the input reads as it did. -/
def seriesScreensSpec : ChangeSpec := { name := "seriesScreens", fn := fun _ => fun
  | [d] => { results := [.lit (.bool true)], args := [d] }
  | _ => none }
def seriesScreensRow : OpenClaim := { program := "ytnocdnhhlppahaa", sum := "85c787600d8b32840b207029b6787c8a21cd4521f5338ae02378233bf61aac3a", func := "swath/swathlaw08.SeriesScreens", spec := "seriesScreens", unfollowed := true, recurses := true, apart := false }
def SeriesScreensSaid : Prop := seriesScreensRow.holds Try.pinned (OpenSpec.ofChange seriesScreensSpec)

/-- ITS FALSE NEIGHBOUR: 'it returns false'. Refute it at one input. -/
def seriesScreensWrong : ChangeSpec := { name := "seriesScreens", fn := fun _ => fun
  | [d] => { results := [.lit (.bool false)], args := [d] }
  | _ => none }
def SeriesScreensWrongFalsely : Prop := seriesScreensRow.holds Try.pinned (OpenSpec.ofChange seriesScreensWrong)

/-- 'swathtop.TopUpAndEastSeen': WHATEVER THE INPUT: true; the input reads as it did. -/
def topUpAndEastSeenSpec : ChangeSpec := { name := "topUpAndEastSeen", fn := fun _ => fun
  | [d1, d2] => { results := [.lit (.bool true)], args := [d1, d2] }
  | _ => none }
def topUpAndEastSeenRow : OpenClaim := { program := "ytnocdnhhlppahaa", sum := "85c787600d8b32840b207029b6787c8a21cd4521f5338ae02378233bf61aac3a", func := "swath/swathtop.TopUpAndEastSeen", spec := "topUpAndEastSeen", unfollowed := true, recurses := true, apart := false }
def TopUpAndEastSeenSaid : Prop := topUpAndEastSeenRow.holds Try.pinned (OpenSpec.ofChange topUpAndEastSeenSpec)

/-- ITS FALSE NEIGHBOUR: 'it returns false'. Refute it at one input. -/
def topUpAndEastSeenWrong : ChangeSpec := { name := "topUpAndEastSeen", fn := fun _ => fun
  | [d1, d2] => { results := [.lit (.bool false)], args := [d1, d2] }
  | _ => none }
def TopUpAndEastSeenWrongFalsely : Prop := topUpAndEastSeenRow.holds Try.pinned (OpenSpec.ofChange topUpAndEastSeenWrong)

/- THE SECOND FORM. 'bulk': how many values and letters a reading holds, each counted each time it is reached (what is shared counts as often as it is met; a slice's spare places count too). A statement '..UptoSaid' is the law's where the arguments, and the package variables that the reading takes, are together of bulk at most 1048576: NARROWER than '..Said'. Prove '..Said' where nothing that the law and all that it calls make is longer than what came in: it says more and counts as full. Else prove '..UptoSaid'. A law counts once. -/
mutual
def uptoBulk {H : Type} : DataW H → Nat
  | .lit (.string bytes) => bytes.length + 1
  | .lit _ => 1
  | .nil => 1
  | .ptr d => uptoBulk d + 1
  | .slice elems spare => uptoBulkAll elems + uptoBulkAll spare + 1
  | .agg parts => uptoBulkAll parts + 1
  | .iface _ d => uptoBulk d + 1
  | .map entries => uptoBulkEntries entries + 1
  | .held _ => 1
def uptoBulkAll {H : Type} : List (DataW H) → Nat
  | [] => 0
  | d :: r => uptoBulk d + uptoBulkAll r
def uptoBulkEntries {H : Type} : List (Lit × DataW H) → Nat
  | [] => 0
  | x :: r => uptoBulkEntry x + uptoBulkEntries r
def uptoBulkEntry {H : Type} : Lit × DataW H → Nat
  | (.string bytes, d) => bytes.length + uptoBulk d + 1
  | (_, d) => uptoBulk d + 1
 end
def uptoSmall : (H : Type) → List (DataW H) → Bool := fun _ ds => decide (uptoBulkAll ds ≤ 1048576)
def OpenSpec.upto (s : _root_.Go.ChangeSpec) : _root_.Go.OpenSpec := { _root_.Go.OpenSpec.ofChange s with cond := some uptoSmall }

/-- 'swathlaw08.SeriesSolves', WHERE WHAT IT READS IS OF BULK AT MOST 1048576: true; the input reads as it did. -/
def seriesSolvesUptoRow : OpenClaim := { program := "ytnocdnhhlppahaa", sum := "85c787600d8b32840b207029b6787c8a21cd4521f5338ae02378233bf61aac3a", func := "swath/swathlaw08.SeriesSolves", spec := "seriesSolves", unfollowed := true, recurses := true, apart := false, narrowed := true }
def SeriesSolvesUptoSaid : Prop := seriesSolvesUptoRow.holds Try.pinned (OpenSpec.upto seriesSolvesSpec)

/-- 'swathlaw08.SeriesSeen', WHERE WHAT IT READS IS OF BULK AT MOST 1048576: true; the input reads as it did. -/
def seriesSeenUptoRow : OpenClaim := { program := "ytnocdnhhlppahaa", sum := "85c787600d8b32840b207029b6787c8a21cd4521f5338ae02378233bf61aac3a", func := "swath/swathlaw08.SeriesSeen", spec := "seriesSeen", unfollowed := true, recurses := true, apart := false, narrowed := true }
def SeriesSeenUptoSaid : Prop := seriesSeenUptoRow.holds Try.pinned (OpenSpec.upto seriesSeenSpec)

/-- 'swathlaw08.SeriesTracks', WHERE WHAT IT READS IS OF BULK AT MOST 1048576: true; the input reads as it did. -/
def seriesTracksUptoRow : OpenClaim := { program := "ytnocdnhhlppahaa", sum := "85c787600d8b32840b207029b6787c8a21cd4521f5338ae02378233bf61aac3a", func := "swath/swathlaw08.SeriesTracks", spec := "seriesTracks", unfollowed := true, recurses := true, apart := false, narrowed := true }
def SeriesTracksUptoSaid : Prop := seriesTracksUptoRow.holds Try.pinned (OpenSpec.upto seriesTracksSpec)

/-- 'swathlaw08.SeriesSquares', WHERE WHAT IT READS IS OF BULK AT MOST 1048576: true; the input reads as it did. -/
def seriesSquaresUptoRow : OpenClaim := { program := "ytnocdnhhlppahaa", sum := "85c787600d8b32840b207029b6787c8a21cd4521f5338ae02378233bf61aac3a", func := "swath/swathlaw08.SeriesSquares", spec := "seriesSquares", unfollowed := true, recurses := true, apart := false, narrowed := true }
def SeriesSquaresUptoSaid : Prop := seriesSquaresUptoRow.holds Try.pinned (OpenSpec.upto seriesSquaresSpec)

/-- 'swathlaw08.SeriesMoves', WHERE WHAT IT READS IS OF BULK AT MOST 1048576: true; the input reads as it did. -/
def seriesMovesUptoRow : OpenClaim := { program := "ytnocdnhhlppahaa", sum := "85c787600d8b32840b207029b6787c8a21cd4521f5338ae02378233bf61aac3a", func := "swath/swathlaw08.SeriesMoves", spec := "seriesMoves", unfollowed := true, recurses := true, apart := false, narrowed := true }
def SeriesMovesUptoSaid : Prop := seriesMovesUptoRow.holds Try.pinned (OpenSpec.upto seriesMovesSpec)

/-- 'swathlaw08.SeriesVelocities', WHERE WHAT IT READS IS OF BULK AT MOST 1048576: true; the input reads as it did. -/
def seriesVelocitiesUptoRow : OpenClaim := { program := "ytnocdnhhlppahaa", sum := "85c787600d8b32840b207029b6787c8a21cd4521f5338ae02378233bf61aac3a", func := "swath/swathlaw08.SeriesVelocities", spec := "seriesVelocities", unfollowed := true, recurses := true, apart := false, narrowed := true }
def SeriesVelocitiesUptoSaid : Prop := seriesVelocitiesUptoRow.holds Try.pinned (OpenSpec.upto seriesVelocitiesSpec)

/-- 'swathlaw08.SeriesResiduals', WHERE WHAT IT READS IS OF BULK AT MOST 1048576: true; the input reads as it did. -/
def seriesResidualsUptoRow : OpenClaim := { program := "ytnocdnhhlppahaa", sum := "85c787600d8b32840b207029b6787c8a21cd4521f5338ae02378233bf61aac3a", func := "swath/swathlaw08.SeriesResiduals", spec := "seriesResiduals", unfollowed := true, recurses := true, apart := false, narrowed := true }
def SeriesResidualsUptoSaid : Prop := seriesResidualsUptoRow.holds Try.pinned (OpenSpec.upto seriesResidualsSpec)

/-- 'swathlaw08.SeriesOrthogonal', WHERE WHAT IT READS IS OF BULK AT MOST 1048576: true; the input reads as it did. -/
def seriesOrthogonalUptoRow : OpenClaim := { program := "ytnocdnhhlppahaa", sum := "85c787600d8b32840b207029b6787c8a21cd4521f5338ae02378233bf61aac3a", func := "swath/swathlaw08.SeriesOrthogonal", spec := "seriesOrthogonal", unfollowed := true, recurses := true, apart := false, narrowed := true }
def SeriesOrthogonalUptoSaid : Prop := seriesOrthogonalUptoRow.holds Try.pinned (OpenSpec.upto seriesOrthogonalSpec)

/-- 'swathlaw08.SeriesDatums', WHERE WHAT IT READS IS OF BULK AT MOST 1048576: true; the input reads as it did. -/
def seriesDatumsUptoRow : OpenClaim := { program := "ytnocdnhhlppahaa", sum := "85c787600d8b32840b207029b6787c8a21cd4521f5338ae02378233bf61aac3a", func := "swath/swathlaw08.SeriesDatums", spec := "seriesDatums", unfollowed := true, recurses := true, apart := false, narrowed := true }
def SeriesDatumsUptoSaid : Prop := seriesDatumsUptoRow.holds Try.pinned (OpenSpec.upto seriesDatumsSpec)

/-- 'swathlaw08.SeriesRemoves', WHERE WHAT IT READS IS OF BULK AT MOST 1048576: true; the input reads as it did. -/
def seriesRemovesUptoRow : OpenClaim := { program := "ytnocdnhhlppahaa", sum := "85c787600d8b32840b207029b6787c8a21cd4521f5338ae02378233bf61aac3a", func := "swath/swathlaw08.SeriesRemoves", spec := "seriesRemoves", unfollowed := true, recurses := true, apart := false, narrowed := true }
def SeriesRemovesUptoSaid : Prop := seriesRemovesUptoRow.holds Try.pinned (OpenSpec.upto seriesRemovesSpec)

/-- 'swathlaw08.SeriesScreens', WHERE WHAT IT READS IS OF BULK AT MOST 1048576: true; the input reads as it did. -/
def seriesScreensUptoRow : OpenClaim := { program := "ytnocdnhhlppahaa", sum := "85c787600d8b32840b207029b6787c8a21cd4521f5338ae02378233bf61aac3a", func := "swath/swathlaw08.SeriesScreens", spec := "seriesScreens", unfollowed := true, recurses := true, apart := false, narrowed := true }
def SeriesScreensUptoSaid : Prop := seriesScreensUptoRow.holds Try.pinned (OpenSpec.upto seriesScreensSpec)

/-- 'swathtop.TopUpAndEastSeen', WHERE WHAT IT READS IS OF BULK AT MOST 1048576: true; the input reads as it did. -/
def topUpAndEastSeenUptoRow : OpenClaim := { program := "ytnocdnhhlppahaa", sum := "85c787600d8b32840b207029b6787c8a21cd4521f5338ae02378233bf61aac3a", func := "swath/swathtop.TopUpAndEastSeen", spec := "topUpAndEastSeen", unfollowed := true, recurses := true, apart := false, narrowed := true }
def TopUpAndEastSeenUptoSaid : Prop := topUpAndEastSeenUptoRow.holds Try.pinned (OpenSpec.upto topUpAndEastSeenSpec)

end Rows
end Go.Proofs.Ytnocdnhhlppahaa
