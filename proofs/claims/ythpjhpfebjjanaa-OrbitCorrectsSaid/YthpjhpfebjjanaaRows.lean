/-
  No cell of these rows narrows 'for every input' (looked for: loops, veiled, ifaces, maps, wideKeys, modest, calm, conditions, laid).
  DERIVED. THE GIVEN ROWS OF THIS SEAT. 13 by the template 'for every input the law returns true; each argument reads behind the call as it read before'; 0 by the template 'total and deterministic' (their statements: YthpjhpfebjjanaaTotals.lean).
  GIVEN WITH THE SEED: the statements are not yours to turn. If you find one false, say at which input.
  Laid BY PROGRAM, IN A SANDBOX (cutbox-rows.mjs): the forced cells as the released guide's own fill.sh prints them over the translation e316dd604e543842… (all of the seat's roots in one cut). By AI agents, Wed Nov 11 2026. No macro, syntax, notation, axiom, sorry.
-/
import Derived.Test.YthpjhpfebjjanaaChecked
import GoSem.Claim
import GoSem.ClaimJoined
import GoSem.ClaimMapViews
import Derived.JoinedTies
import Derived.KernelRfl
namespace Go.Proofs.Ythpjhpfebjjanaa
/- THE CELL 'sum', in the pinned program and in every row, IS THE sha256 OF THE DUMP (.gsa) THAT YthpjhpfebjjanaaProg.lean LOADS. Nothing in Lean hashes anything: it is a label: what it is worth is what the hold of that sum in a sandbox is worth. -/
noncomputable def Try.pinned : Pinned := { name := "ythpjhpfebjjanaa", sum := "e316dd604e543842db196c6583ecd7c8c0fc5eafb8b7f797ef042421cdc7ce9e", checked := Try.checked }
namespace Rows
def none {H : Type} : Left H := { results := [], args := [] }

/-- 'swathlaw02.OrbitPasses': WHATEVER THE INPUT: true; the input reads as it did. -/
def orbitPassesSpec : ChangeSpec := { name := "orbitPasses", fn := fun _ => fun
  | [d1, d2, d3] => { results := [.lit (.bool true)], args := [d1, d2, d3] }
  | _ => none }
def orbitPassesRow : OpenClaim := { program := "ythpjhpfebjjanaa", sum := "e316dd604e543842db196c6583ecd7c8c0fc5eafb8b7f797ef042421cdc7ce9e", func := "swath/swathlaw02.OrbitPasses", spec := "orbitPasses", unfollowed := true, recurses := true, apart := false }
def OrbitPassesSaid : Prop := orbitPassesRow.holds Try.pinned (OpenSpec.ofChange orbitPassesSpec)

/-- ITS FALSE NEIGHBOUR: 'it returns false'. Refute it at one input. -/
def orbitPassesWrong : ChangeSpec := { name := "orbitPasses", fn := fun _ => fun
  | [d1, d2, d3] => { results := [.lit (.bool false)], args := [d1, d2, d3] }
  | _ => none }
def OrbitPassesWrongFalsely : Prop := orbitPassesRow.holds Try.pinned (OpenSpec.ofChange orbitPassesWrong)

/-- 'swathlaw02.OrbitPlaces': WHATEVER THE INPUT: true; the input reads as it did. -/
def orbitPlacesSpec : ChangeSpec := { name := "orbitPlaces", fn := fun _ => fun
  | [d1, d2] => { results := [.lit (.bool true)], args := [d1, d2] }
  | _ => none }
def orbitPlacesRow : OpenClaim := { program := "ythpjhpfebjjanaa", sum := "e316dd604e543842db196c6583ecd7c8c0fc5eafb8b7f797ef042421cdc7ce9e", func := "swath/swathlaw02.OrbitPlaces", spec := "orbitPlaces", unfollowed := true, recurses := true, apart := false }
def OrbitPlacesSaid : Prop := orbitPlacesRow.holds Try.pinned (OpenSpec.ofChange orbitPlacesSpec)

/-- ITS FALSE NEIGHBOUR: 'it returns false'. Refute it at one input. -/
def orbitPlacesWrong : ChangeSpec := { name := "orbitPlaces", fn := fun _ => fun
  | [d1, d2] => { results := [.lit (.bool false)], args := [d1, d2] }
  | _ => none }
def OrbitPlacesWrongFalsely : Prop := orbitPlacesRow.holds Try.pinned (OpenSpec.ofChange orbitPlacesWrong)

/-- 'swathlaw02.OrbitWidens': WHATEVER THE INPUT: true; the input reads as it did. -/
def orbitWidensSpec : ChangeSpec := { name := "orbitWidens", fn := fun _ => fun
  | [d1, d2, d3] => { results := [.lit (.bool true)], args := [d1, d2, d3] }
  | _ => none }
def orbitWidensRow : OpenClaim := { program := "ythpjhpfebjjanaa", sum := "e316dd604e543842db196c6583ecd7c8c0fc5eafb8b7f797ef042421cdc7ce9e", func := "swath/swathlaw02.OrbitWidens", spec := "orbitWidens", unfollowed := true, recurses := true, apart := false }
def OrbitWidensSaid : Prop := orbitWidensRow.holds Try.pinned (OpenSpec.ofChange orbitWidensSpec)

/-- ITS FALSE NEIGHBOUR: 'it returns false'. Refute it at one input. -/
def orbitWidensWrong : ChangeSpec := { name := "orbitWidens", fn := fun _ => fun
  | [d1, d2, d3] => { results := [.lit (.bool false)], args := [d1, d2, d3] }
  | _ => none }
def OrbitWidensWrongFalsely : Prop := orbitWidensRow.holds Try.pinned (OpenSpec.ofChange orbitWidensWrong)

/-- 'swathlaw02.OrbitProofs': WHATEVER THE INPUT: true; the input reads as it did. -/
def orbitProofsSpec : ChangeSpec := { name := "orbitProofs", fn := fun _ => fun
  | [d1, d2, d3] => { results := [.lit (.bool true)], args := [d1, d2, d3] }
  | _ => none }
def orbitProofsRow : OpenClaim := { program := "ythpjhpfebjjanaa", sum := "e316dd604e543842db196c6583ecd7c8c0fc5eafb8b7f797ef042421cdc7ce9e", func := "swath/swathlaw02.OrbitProofs", spec := "orbitProofs", unfollowed := true, recurses := true, apart := false }
def OrbitProofsSaid : Prop := orbitProofsRow.holds Try.pinned (OpenSpec.ofChange orbitProofsSpec)

/-- ITS FALSE NEIGHBOUR: 'it returns false'. Refute it at one input. -/
def orbitProofsWrong : ChangeSpec := { name := "orbitProofs", fn := fun _ => fun
  | [d1, d2, d3] => { results := [.lit (.bool false)], args := [d1, d2, d3] }
  | _ => none }
def OrbitProofsWrongFalsely : Prop := orbitProofsRow.holds Try.pinned (OpenSpec.ofChange orbitProofsWrong)

/-- 'swathlaw02.OrbitSurely': WHATEVER THE INPUT: true; the input reads as it did. -/
def orbitSurelySpec : ChangeSpec := { name := "orbitSurely", fn := fun _ => fun
  | [d1, d2, d3] => { results := [.lit (.bool true)], args := [d1, d2, d3] }
  | _ => none }
def orbitSurelyRow : OpenClaim := { program := "ythpjhpfebjjanaa", sum := "e316dd604e543842db196c6583ecd7c8c0fc5eafb8b7f797ef042421cdc7ce9e", func := "swath/swathlaw02.OrbitSurely", spec := "orbitSurely", unfollowed := true, recurses := true, apart := false }
def OrbitSurelySaid : Prop := orbitSurelyRow.holds Try.pinned (OpenSpec.ofChange orbitSurelySpec)

/-- ITS FALSE NEIGHBOUR: 'it returns false'. Refute it at one input. -/
def orbitSurelyWrong : ChangeSpec := { name := "orbitSurely", fn := fun _ => fun
  | [d1, d2, d3] => { results := [.lit (.bool false)], args := [d1, d2, d3] }
  | _ => none }
def OrbitSurelyWrongFalsely : Prop := orbitSurelyRow.holds Try.pinned (OpenSpec.ofChange orbitSurelyWrong)

/-- 'swathlaw02.OrbitDistances': WHATEVER THE INPUT: true; the input reads as it did. -/
def orbitDistancesSpec : ChangeSpec := { name := "orbitDistances", fn := fun _ => fun
  | [d1, d2, d3] => { results := [.lit (.bool true)], args := [d1, d2, d3] }
  | _ => none }
def orbitDistancesRow : OpenClaim := { program := "ythpjhpfebjjanaa", sum := "e316dd604e543842db196c6583ecd7c8c0fc5eafb8b7f797ef042421cdc7ce9e", func := "swath/swathlaw02.OrbitDistances", spec := "orbitDistances", unfollowed := true, recurses := true, apart := false }
def OrbitDistancesSaid : Prop := orbitDistancesRow.holds Try.pinned (OpenSpec.ofChange orbitDistancesSpec)

/-- ITS FALSE NEIGHBOUR: 'it returns false'. Refute it at one input. -/
def orbitDistancesWrong : ChangeSpec := { name := "orbitDistances", fn := fun _ => fun
  | [d1, d2, d3] => { results := [.lit (.bool false)], args := [d1, d2, d3] }
  | _ => none }
def OrbitDistancesWrongFalsely : Prop := orbitDistancesRow.holds Try.pinned (OpenSpec.ofChange orbitDistancesWrong)

/-- 'swathlaw02.OrbitSides': WHATEVER THE INPUT: true; the input reads as it did. -/
def orbitSidesSpec : ChangeSpec := { name := "orbitSides", fn := fun _ => fun
  | [d1, d2, d3] => { results := [.lit (.bool true)], args := [d1, d2, d3] }
  | _ => none }
def orbitSidesRow : OpenClaim := { program := "ythpjhpfebjjanaa", sum := "e316dd604e543842db196c6583ecd7c8c0fc5eafb8b7f797ef042421cdc7ce9e", func := "swath/swathlaw02.OrbitSides", spec := "orbitSides", unfollowed := true, recurses := true, apart := false }
def OrbitSidesSaid : Prop := orbitSidesRow.holds Try.pinned (OpenSpec.ofChange orbitSidesSpec)

/-- ITS FALSE NEIGHBOUR: 'it returns false'. Refute it at one input. -/
def orbitSidesWrong : ChangeSpec := { name := "orbitSides", fn := fun _ => fun
  | [d1, d2, d3] => { results := [.lit (.bool false)], args := [d1, d2, d3] }
  | _ => none }
def OrbitSidesWrongFalsely : Prop := orbitSidesRow.holds Try.pinned (OpenSpec.ofChange orbitSidesWrong)

/-- 'swathlaw02.OrbitChecks': WHATEVER THE INPUT: true; the input reads as it did. -/
def orbitChecksSpec : ChangeSpec := { name := "orbitChecks", fn := fun _ => fun
  | [d1, d2] => { results := [.lit (.bool true)], args := [d1, d2] }
  | _ => none }
def orbitChecksRow : OpenClaim := { program := "ythpjhpfebjjanaa", sum := "e316dd604e543842db196c6583ecd7c8c0fc5eafb8b7f797ef042421cdc7ce9e", func := "swath/swathlaw02.OrbitChecks", spec := "orbitChecks", unfollowed := true, recurses := true, apart := false }
def OrbitChecksSaid : Prop := orbitChecksRow.holds Try.pinned (OpenSpec.ofChange orbitChecksSpec)

/-- ITS FALSE NEIGHBOUR: 'it returns false'. Refute it at one input. -/
def orbitChecksWrong : ChangeSpec := { name := "orbitChecks", fn := fun _ => fun
  | [d1, d2] => { results := [.lit (.bool false)], args := [d1, d2] }
  | _ => none }
def OrbitChecksWrongFalsely : Prop := orbitChecksRow.holds Try.pinned (OpenSpec.ofChange orbitChecksWrong)

/-- 'swathlaw02.OrbitNearest': WHATEVER THE INPUT: true; the input reads as it did. -/
def orbitNearestSpec : ChangeSpec := { name := "orbitNearest", fn := fun _ => fun
  | [d1, d2] => { results := [.lit (.bool true)], args := [d1, d2] }
  | _ => none }
def orbitNearestRow : OpenClaim := { program := "ythpjhpfebjjanaa", sum := "e316dd604e543842db196c6583ecd7c8c0fc5eafb8b7f797ef042421cdc7ce9e", func := "swath/swathlaw02.OrbitNearest", spec := "orbitNearest", unfollowed := true, recurses := true, apart := false }
def OrbitNearestSaid : Prop := orbitNearestRow.holds Try.pinned (OpenSpec.ofChange orbitNearestSpec)

/-- ITS FALSE NEIGHBOUR: 'it returns false'. Refute it at one input. -/
def orbitNearestWrong : ChangeSpec := { name := "orbitNearest", fn := fun _ => fun
  | [d1, d2] => { results := [.lit (.bool false)], args := [d1, d2] }
  | _ => none }
def OrbitNearestWrongFalsely : Prop := orbitNearestRow.holds Try.pinned (OpenSpec.ofChange orbitNearestWrong)

/-- 'swathlaw02.OrbitBaselines': WHATEVER THE INPUT: true; the input reads as it did. -/
def orbitBaselinesSpec : ChangeSpec := { name := "orbitBaselines", fn := fun _ => fun
  | [d1, d2] => { results := [.lit (.bool true)], args := [d1, d2] }
  | _ => none }
def orbitBaselinesRow : OpenClaim := { program := "ythpjhpfebjjanaa", sum := "e316dd604e543842db196c6583ecd7c8c0fc5eafb8b7f797ef042421cdc7ce9e", func := "swath/swathlaw02.OrbitBaselines", spec := "orbitBaselines", unfollowed := true, recurses := true, apart := false }
def OrbitBaselinesSaid : Prop := orbitBaselinesRow.holds Try.pinned (OpenSpec.ofChange orbitBaselinesSpec)

/-- ITS FALSE NEIGHBOUR: 'it returns false'. Refute it at one input. -/
def orbitBaselinesWrong : ChangeSpec := { name := "orbitBaselines", fn := fun _ => fun
  | [d1, d2] => { results := [.lit (.bool false)], args := [d1, d2] }
  | _ => none }
def OrbitBaselinesWrongFalsely : Prop := orbitBaselinesRow.holds Try.pinned (OpenSpec.ofChange orbitBaselinesWrong)

/-- 'swathlaw02.OrbitAgrees': WHATEVER THE INPUT: true; the input reads as it did. -/
def orbitAgreesSpec : ChangeSpec := { name := "orbitAgrees", fn := fun _ => fun
  | [d1, d2] => { results := [.lit (.bool true)], args := [d1, d2] }
  | _ => none }
def orbitAgreesRow : OpenClaim := { program := "ythpjhpfebjjanaa", sum := "e316dd604e543842db196c6583ecd7c8c0fc5eafb8b7f797ef042421cdc7ce9e", func := "swath/swathlaw02.OrbitAgrees", spec := "orbitAgrees", unfollowed := true, recurses := true, apart := false }
def OrbitAgreesSaid : Prop := orbitAgreesRow.holds Try.pinned (OpenSpec.ofChange orbitAgreesSpec)

/-- ITS FALSE NEIGHBOUR: 'it returns false'. Refute it at one input. -/
def orbitAgreesWrong : ChangeSpec := { name := "orbitAgrees", fn := fun _ => fun
  | [d1, d2] => { results := [.lit (.bool false)], args := [d1, d2] }
  | _ => none }
def OrbitAgreesWrongFalsely : Prop := orbitAgreesRow.holds Try.pinned (OpenSpec.ofChange orbitAgreesWrong)

/-- 'swathlaw02.OrbitCorrects': WHATEVER THE INPUT: true; the input reads as it did. -/
def orbitCorrectsSpec : ChangeSpec := { name := "orbitCorrects", fn := fun _ => fun
  | [d1, d2, d3] => { results := [.lit (.bool true)], args := [d1, d2, d3] }
  | _ => none }
def orbitCorrectsRow : OpenClaim := { program := "ythpjhpfebjjanaa", sum := "e316dd604e543842db196c6583ecd7c8c0fc5eafb8b7f797ef042421cdc7ce9e", func := "swath/swathlaw02.OrbitCorrects", spec := "orbitCorrects", unfollowed := true, recurses := true, apart := false }
def OrbitCorrectsSaid : Prop := orbitCorrectsRow.holds Try.pinned (OpenSpec.ofChange orbitCorrectsSpec)

/-- ITS FALSE NEIGHBOUR: 'it returns false'. Refute it at one input. -/
def orbitCorrectsWrong : ChangeSpec := { name := "orbitCorrects", fn := fun _ => fun
  | [d1, d2, d3] => { results := [.lit (.bool false)], args := [d1, d2, d3] }
  | _ => none }
def OrbitCorrectsWrongFalsely : Prop := orbitCorrectsRow.holds Try.pinned (OpenSpec.ofChange orbitCorrectsWrong)

/-- 'swathtop.TopBetweenVectors': WHATEVER THE INPUT: true; the input reads as it did. -/
def topBetweenVectorsSpec : ChangeSpec := { name := "topBetweenVectors", fn := fun _ => fun
  | [d1, d2, d3] => { results := [.lit (.bool true)], args := [d1, d2, d3] }
  | _ => none }
def topBetweenVectorsRow : OpenClaim := { program := "ythpjhpfebjjanaa", sum := "e316dd604e543842db196c6583ecd7c8c0fc5eafb8b7f797ef042421cdc7ce9e", func := "swath/swathtop.TopBetweenVectors", spec := "topBetweenVectors", unfollowed := true, recurses := true, apart := false }
def TopBetweenVectorsSaid : Prop := topBetweenVectorsRow.holds Try.pinned (OpenSpec.ofChange topBetweenVectorsSpec)

/-- ITS FALSE NEIGHBOUR: 'it returns false'. Refute it at one input. -/
def topBetweenVectorsWrong : ChangeSpec := { name := "topBetweenVectors", fn := fun _ => fun
  | [d1, d2, d3] => { results := [.lit (.bool false)], args := [d1, d2, d3] }
  | _ => none }
def TopBetweenVectorsWrongFalsely : Prop := topBetweenVectorsRow.holds Try.pinned (OpenSpec.ofChange topBetweenVectorsWrong)

/- THE SECOND FORM. 'bulk': how many values and letters a reading holds, each counted each time it is reached (what is shared counts as often as it is met; a slice's spare places count too). A statement '..UptoSaid' is the law's where the arguments, and the package variables that the reading takes, are together of bulk at most 1048576: NARROWER than '..Said'. Prove '..Said' where nothing that the law and all that it calls make is longer than what came in: it says more and counts as full. Else prove '..UptoSaid'. A law counts once. -/
mutual
def uptoBulk {H : Type} : DataW H → Nat
  | .lit (.string bytes) => bytes.length + 1
  | .lit _ => 1
  | .nil => 1
  | .ptr d => uptoBulk d + 1
  | .slice elems spare => uptoBulkAll elems + uptoBulkAll spare + 1
  | .agg parts => uptoBulkAll parts + 1
  | .iface _ d => uptoBulk d + 1
  | .map entries => uptoBulkEntries entries + 1
  | .held _ => 1
def uptoBulkAll {H : Type} : List (DataW H) → Nat
  | [] => 0
  | d :: r => uptoBulk d + uptoBulkAll r
def uptoBulkEntries {H : Type} : List (Lit × DataW H) → Nat
  | [] => 0
  | x :: r => uptoBulkEntry x + uptoBulkEntries r
def uptoBulkEntry {H : Type} : Lit × DataW H → Nat
  | (.string bytes, d) => bytes.length + uptoBulk d + 1
  | (_, d) => uptoBulk d + 1
 end
def uptoSmall : (H : Type) → List (DataW H) → Bool := fun _ ds => decide (uptoBulkAll ds ≤ 1048576)
def OpenSpec.upto (s : _root_.Go.ChangeSpec) : _root_.Go.OpenSpec := { _root_.Go.OpenSpec.ofChange s with cond := some uptoSmall }

/-- 'swathlaw02.OrbitPasses', WHERE WHAT IT READS IS OF BULK AT MOST 1048576: true; the input reads as it did. -/
def orbitPassesUptoRow : OpenClaim := { program := "ythpjhpfebjjanaa", sum := "e316dd604e543842db196c6583ecd7c8c0fc5eafb8b7f797ef042421cdc7ce9e", func := "swath/swathlaw02.OrbitPasses", spec := "orbitPasses", unfollowed := true, recurses := true, apart := false, narrowed := true }
def OrbitPassesUptoSaid : Prop := orbitPassesUptoRow.holds Try.pinned (OpenSpec.upto orbitPassesSpec)

/-- 'swathlaw02.OrbitPlaces', WHERE WHAT IT READS IS OF BULK AT MOST 1048576: true; the input reads as it did. -/
def orbitPlacesUptoRow : OpenClaim := { program := "ythpjhpfebjjanaa", sum := "e316dd604e543842db196c6583ecd7c8c0fc5eafb8b7f797ef042421cdc7ce9e", func := "swath/swathlaw02.OrbitPlaces", spec := "orbitPlaces", unfollowed := true, recurses := true, apart := false, narrowed := true }
def OrbitPlacesUptoSaid : Prop := orbitPlacesUptoRow.holds Try.pinned (OpenSpec.upto orbitPlacesSpec)

/-- 'swathlaw02.OrbitWidens', WHERE WHAT IT READS IS OF BULK AT MOST 1048576: true; the input reads as it did. -/
def orbitWidensUptoRow : OpenClaim := { program := "ythpjhpfebjjanaa", sum := "e316dd604e543842db196c6583ecd7c8c0fc5eafb8b7f797ef042421cdc7ce9e", func := "swath/swathlaw02.OrbitWidens", spec := "orbitWidens", unfollowed := true, recurses := true, apart := false, narrowed := true }
def OrbitWidensUptoSaid : Prop := orbitWidensUptoRow.holds Try.pinned (OpenSpec.upto orbitWidensSpec)

/-- 'swathlaw02.OrbitProofs', WHERE WHAT IT READS IS OF BULK AT MOST 1048576: true; the input reads as it did. -/
def orbitProofsUptoRow : OpenClaim := { program := "ythpjhpfebjjanaa", sum := "e316dd604e543842db196c6583ecd7c8c0fc5eafb8b7f797ef042421cdc7ce9e", func := "swath/swathlaw02.OrbitProofs", spec := "orbitProofs", unfollowed := true, recurses := true, apart := false, narrowed := true }
def OrbitProofsUptoSaid : Prop := orbitProofsUptoRow.holds Try.pinned (OpenSpec.upto orbitProofsSpec)

/-- 'swathlaw02.OrbitSurely', WHERE WHAT IT READS IS OF BULK AT MOST 1048576: true; the input reads as it did. -/
def orbitSurelyUptoRow : OpenClaim := { program := "ythpjhpfebjjanaa", sum := "e316dd604e543842db196c6583ecd7c8c0fc5eafb8b7f797ef042421cdc7ce9e", func := "swath/swathlaw02.OrbitSurely", spec := "orbitSurely", unfollowed := true, recurses := true, apart := false, narrowed := true }
def OrbitSurelyUptoSaid : Prop := orbitSurelyUptoRow.holds Try.pinned (OpenSpec.upto orbitSurelySpec)

/-- 'swathlaw02.OrbitDistances', WHERE WHAT IT READS IS OF BULK AT MOST 1048576: true; the input reads as it did. -/
def orbitDistancesUptoRow : OpenClaim := { program := "ythpjhpfebjjanaa", sum := "e316dd604e543842db196c6583ecd7c8c0fc5eafb8b7f797ef042421cdc7ce9e", func := "swath/swathlaw02.OrbitDistances", spec := "orbitDistances", unfollowed := true, recurses := true, apart := false, narrowed := true }
def OrbitDistancesUptoSaid : Prop := orbitDistancesUptoRow.holds Try.pinned (OpenSpec.upto orbitDistancesSpec)

/-- 'swathlaw02.OrbitSides', WHERE WHAT IT READS IS OF BULK AT MOST 1048576: true; the input reads as it did. -/
def orbitSidesUptoRow : OpenClaim := { program := "ythpjhpfebjjanaa", sum := "e316dd604e543842db196c6583ecd7c8c0fc5eafb8b7f797ef042421cdc7ce9e", func := "swath/swathlaw02.OrbitSides", spec := "orbitSides", unfollowed := true, recurses := true, apart := false, narrowed := true }
def OrbitSidesUptoSaid : Prop := orbitSidesUptoRow.holds Try.pinned (OpenSpec.upto orbitSidesSpec)

/-- 'swathlaw02.OrbitChecks', WHERE WHAT IT READS IS OF BULK AT MOST 1048576: true; the input reads as it did. -/
def orbitChecksUptoRow : OpenClaim := { program := "ythpjhpfebjjanaa", sum := "e316dd604e543842db196c6583ecd7c8c0fc5eafb8b7f797ef042421cdc7ce9e", func := "swath/swathlaw02.OrbitChecks", spec := "orbitChecks", unfollowed := true, recurses := true, apart := false, narrowed := true }
def OrbitChecksUptoSaid : Prop := orbitChecksUptoRow.holds Try.pinned (OpenSpec.upto orbitChecksSpec)

/-- 'swathlaw02.OrbitNearest', WHERE WHAT IT READS IS OF BULK AT MOST 1048576: true; the input reads as it did. -/
def orbitNearestUptoRow : OpenClaim := { program := "ythpjhpfebjjanaa", sum := "e316dd604e543842db196c6583ecd7c8c0fc5eafb8b7f797ef042421cdc7ce9e", func := "swath/swathlaw02.OrbitNearest", spec := "orbitNearest", unfollowed := true, recurses := true, apart := false, narrowed := true }
def OrbitNearestUptoSaid : Prop := orbitNearestUptoRow.holds Try.pinned (OpenSpec.upto orbitNearestSpec)

/-- 'swathlaw02.OrbitBaselines', WHERE WHAT IT READS IS OF BULK AT MOST 1048576: true; the input reads as it did. -/
def orbitBaselinesUptoRow : OpenClaim := { program := "ythpjhpfebjjanaa", sum := "e316dd604e543842db196c6583ecd7c8c0fc5eafb8b7f797ef042421cdc7ce9e", func := "swath/swathlaw02.OrbitBaselines", spec := "orbitBaselines", unfollowed := true, recurses := true, apart := false, narrowed := true }
def OrbitBaselinesUptoSaid : Prop := orbitBaselinesUptoRow.holds Try.pinned (OpenSpec.upto orbitBaselinesSpec)

/-- 'swathlaw02.OrbitAgrees', WHERE WHAT IT READS IS OF BULK AT MOST 1048576: true; the input reads as it did. -/
def orbitAgreesUptoRow : OpenClaim := { program := "ythpjhpfebjjanaa", sum := "e316dd604e543842db196c6583ecd7c8c0fc5eafb8b7f797ef042421cdc7ce9e", func := "swath/swathlaw02.OrbitAgrees", spec := "orbitAgrees", unfollowed := true, recurses := true, apart := false, narrowed := true }
def OrbitAgreesUptoSaid : Prop := orbitAgreesUptoRow.holds Try.pinned (OpenSpec.upto orbitAgreesSpec)

/-- 'swathlaw02.OrbitCorrects', WHERE WHAT IT READS IS OF BULK AT MOST 1048576: true; the input reads as it did. -/
def orbitCorrectsUptoRow : OpenClaim := { program := "ythpjhpfebjjanaa", sum := "e316dd604e543842db196c6583ecd7c8c0fc5eafb8b7f797ef042421cdc7ce9e", func := "swath/swathlaw02.OrbitCorrects", spec := "orbitCorrects", unfollowed := true, recurses := true, apart := false, narrowed := true }
def OrbitCorrectsUptoSaid : Prop := orbitCorrectsUptoRow.holds Try.pinned (OpenSpec.upto orbitCorrectsSpec)

/-- 'swathtop.TopBetweenVectors', WHERE WHAT IT READS IS OF BULK AT MOST 1048576: true; the input reads as it did. -/
def topBetweenVectorsUptoRow : OpenClaim := { program := "ythpjhpfebjjanaa", sum := "e316dd604e543842db196c6583ecd7c8c0fc5eafb8b7f797ef042421cdc7ce9e", func := "swath/swathtop.TopBetweenVectors", spec := "topBetweenVectors", unfollowed := true, recurses := true, apart := false, narrowed := true }
def TopBetweenVectorsUptoSaid : Prop := topBetweenVectorsUptoRow.holds Try.pinned (OpenSpec.upto topBetweenVectorsSpec)

end Rows
end Go.Proofs.Ythpjhpfebjjanaa
