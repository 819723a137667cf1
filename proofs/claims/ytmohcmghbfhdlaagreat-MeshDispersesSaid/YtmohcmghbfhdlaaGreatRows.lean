/-
  No cell of these rows narrows 'for every input' (looked for: loops, veiled, ifaces, maps, wideKeys, modest, calm, conditions, laid).
  DERIVED. THE GIVEN ROWS OF THIS SEAT. 9 by the template 'for every input the law returns true; each argument reads behind the call as it read before'; 0 by the template 'total and deterministic' (their statements: YtmohcmghbfhdlaaGreatTotals.lean).
  GIVEN WITH THE SEED: the statements are not yours to turn. If you find one false, say at which input.
  Laid BY PROGRAM, IN A SANDBOX (cutbox-rows.mjs): the forced cells as the released guide's own fill.sh prints them over the translation 9ce4816febec2460… (all of the seat's roots in one cut). By AI agents, Wed Nov 11 2026. No macro, syntax, notation, axiom, sorry.
-/
import Derived.Test.YtmohcmghbfhdlaaGreatChecked
import GoSem.Claim
import GoSem.ClaimJoined
import GoSem.ClaimMapViews
import Derived.JoinedTies
import Derived.KernelRfl
namespace Go.Proofs.YtmohcmghbfhdlaaGreat
/- THE CELL 'sum', in the pinned program and in every row, IS THE sha256 OF THE DUMP (.gsa) THAT YtmohcmghbfhdlaaGreatProg.lean LOADS. Nothing in Lean hashes anything: it is a label: what it is worth is what the hold of that sum in a sandbox is worth. -/
noncomputable def Tryz.pinned : Pinned := { name := "ytmohcmghbfhdlaagreat", sum := "9ce4816febec2460babc5ff75921bb438646ac6ca4b4806c61152ddb7f30eea6", checked := Tryz.checked }
namespace Rows
def none {H : Type} : Left H := { results := [], args := [] }

/-- 'swathlaw06.MeshFields': WHATEVER THE INPUT: true; the input reads as it did. -/
def meshFieldsSpec : ChangeSpec := { name := "meshFields", fn := fun _ => fun
  | [d1, d2, d3] => { results := [.lit (.bool true)], args := [d1, d2, d3] }
  | _ => none }
def meshFieldsRow : OpenClaim := { program := "ytmohcmghbfhdlaagreat", sum := "9ce4816febec2460babc5ff75921bb438646ac6ca4b4806c61152ddb7f30eea6", func := "swath/swathlaw06.MeshFields", spec := "meshFields", unfollowed := true, recurses := true, plainKeys := false, apart := false }
def MeshFieldsSaid : Prop := meshFieldsRow.holds Tryz.pinned (OpenSpec.ofChange meshFieldsSpec)

/-- ITS FALSE NEIGHBOUR: 'it returns false'. Refute it at one input. -/
def meshFieldsWrong : ChangeSpec := { name := "meshFields", fn := fun _ => fun
  | [d1, d2, d3] => { results := [.lit (.bool false)], args := [d1, d2, d3] }
  | _ => none }
def MeshFieldsWrongFalsely : Prop := meshFieldsRow.holds Tryz.pinned (OpenSpec.ofChange meshFieldsWrong)

/-- 'swathlaw06.MeshNets': WHATEVER THE INPUT: true; the input reads as it did. -/
def meshNetsSpec : ChangeSpec := { name := "meshNets", fn := fun _ => fun
  | [d] => { results := [.lit (.bool true)], args := [d] }
  | _ => none }
def meshNetsRow : OpenClaim := { program := "ytmohcmghbfhdlaagreat", sum := "9ce4816febec2460babc5ff75921bb438646ac6ca4b4806c61152ddb7f30eea6", func := "swath/swathlaw06.MeshNets", spec := "meshNets", unfollowed := true, recurses := true, plainKeys := false, apart := false }
def MeshNetsSaid : Prop := meshNetsRow.holds Tryz.pinned (OpenSpec.ofChange meshNetsSpec)

/-- ITS FALSE NEIGHBOUR: 'it returns false'. Refute it at one input. -/
def meshNetsWrong : ChangeSpec := { name := "meshNets", fn := fun _ => fun
  | [d] => { results := [.lit (.bool false)], args := [d] }
  | _ => none }
def MeshNetsWrongFalsely : Prop := meshNetsRow.holds Tryz.pinned (OpenSpec.ofChange meshNetsWrong)

/-- 'swathlaw06.MeshCloses': WHATEVER THE INPUT: true; the input reads as it did. -/
def meshClosesSpec : ChangeSpec := { name := "meshCloses", fn := fun _ => fun
  | [d1, d2] => { results := [.lit (.bool true)], args := [d1, d2] }
  | _ => none }
def meshClosesRow : OpenClaim := { program := "ytmohcmghbfhdlaagreat", sum := "9ce4816febec2460babc5ff75921bb438646ac6ca4b4806c61152ddb7f30eea6", func := "swath/swathlaw06.MeshCloses", spec := "meshCloses", unfollowed := true, recurses := true, plainKeys := false, apart := false }
def MeshClosesSaid : Prop := meshClosesRow.holds Tryz.pinned (OpenSpec.ofChange meshClosesSpec)

/-- ITS FALSE NEIGHBOUR: 'it returns false'. Refute it at one input. -/
def meshClosesWrong : ChangeSpec := { name := "meshCloses", fn := fun _ => fun
  | [d1, d2] => { results := [.lit (.bool false)], args := [d1, d2] }
  | _ => none }
def MeshClosesWrongFalsely : Prop := meshClosesRow.holds Tryz.pinned (OpenSpec.ofChange meshClosesWrong)

/-- 'swathlaw06.MeshComponents': WHATEVER THE INPUT: true; the input reads as it did. -/
def meshComponentsSpec : ChangeSpec := { name := "meshComponents", fn := fun _ => fun
  | [d1, d2] => { results := [.lit (.bool true)], args := [d1, d2] }
  | _ => none }
def meshComponentsRow : OpenClaim := { program := "ytmohcmghbfhdlaagreat", sum := "9ce4816febec2460babc5ff75921bb438646ac6ca4b4806c61152ddb7f30eea6", func := "swath/swathlaw06.MeshComponents", spec := "meshComponents", unfollowed := true, recurses := true, plainKeys := false, apart := false }
def MeshComponentsSaid : Prop := meshComponentsRow.holds Tryz.pinned (OpenSpec.ofChange meshComponentsSpec)

/-- ITS FALSE NEIGHBOUR: 'it returns false'. Refute it at one input. -/
def meshComponentsWrong : ChangeSpec := { name := "meshComponents", fn := fun _ => fun
  | [d1, d2] => { results := [.lit (.bool false)], args := [d1, d2] }
  | _ => none }
def MeshComponentsWrongFalsely : Prop := meshComponentsRow.holds Tryz.pinned (OpenSpec.ofChange meshComponentsWrong)

/-- 'swathlaw06.MeshLegal': WHATEVER THE INPUT: true; the input reads as it did. -/
def meshLegalSpec : ChangeSpec := { name := "meshLegal", fn := fun _ => fun
  | [d] => { results := [.lit (.bool true)], args := [d] }
  | _ => none }
def meshLegalRow : OpenClaim := { program := "ytmohcmghbfhdlaagreat", sum := "9ce4816febec2460babc5ff75921bb438646ac6ca4b4806c61152ddb7f30eea6", func := "swath/swathlaw06.MeshLegal", spec := "meshLegal", unfollowed := true, recurses := true, plainKeys := false, apart := false }
def MeshLegalSaid : Prop := meshLegalRow.holds Tryz.pinned (OpenSpec.ofChange meshLegalSpec)

/-- ITS FALSE NEIGHBOUR: 'it returns false'. Refute it at one input. -/
def meshLegalWrong : ChangeSpec := { name := "meshLegal", fn := fun _ => fun
  | [d] => { results := [.lit (.bool false)], args := [d] }
  | _ => none }
def MeshLegalWrongFalsely : Prop := meshLegalRow.holds Tryz.pinned (OpenSpec.ofChange meshLegalWrong)

/-- 'swathlaw06.MeshProofs': WHATEVER THE INPUT: true; the input reads as it did. -/
def meshProofsSpec : ChangeSpec := { name := "meshProofs", fn := fun _ => fun
  | [d1, d2] => { results := [.lit (.bool true)], args := [d1, d2] }
  | _ => none }
def meshProofsRow : OpenClaim := { program := "ytmohcmghbfhdlaagreat", sum := "9ce4816febec2460babc5ff75921bb438646ac6ca4b4806c61152ddb7f30eea6", func := "swath/swathlaw06.MeshProofs", spec := "meshProofs", unfollowed := true, recurses := true, plainKeys := false, apart := false }
def MeshProofsSaid : Prop := meshProofsRow.holds Tryz.pinned (OpenSpec.ofChange meshProofsSpec)

/-- ITS FALSE NEIGHBOUR: 'it returns false'. Refute it at one input. -/
def meshProofsWrong : ChangeSpec := { name := "meshProofs", fn := fun _ => fun
  | [d1, d2] => { results := [.lit (.bool false)], args := [d1, d2] }
  | _ => none }
def MeshProofsWrongFalsely : Prop := meshProofsRow.holds Tryz.pinned (OpenSpec.ofChange meshProofsWrong)

/-- 'swathlaw06.MeshDisperses': WHATEVER THE INPUT: true; the input reads as it did. -/
def meshDispersesSpec : ChangeSpec := { name := "meshDisperses", fn := fun _ => fun
  | [d1, d2] => { results := [.lit (.bool true)], args := [d1, d2] }
  | _ => none }
def meshDispersesRow : OpenClaim := { program := "ytmohcmghbfhdlaagreat", sum := "9ce4816febec2460babc5ff75921bb438646ac6ca4b4806c61152ddb7f30eea6", func := "swath/swathlaw06.MeshDisperses", spec := "meshDisperses", unfollowed := true, recurses := true, plainKeys := false, apart := false }
def MeshDispersesSaid : Prop := meshDispersesRow.holds Tryz.pinned (OpenSpec.ofChange meshDispersesSpec)

/-- ITS FALSE NEIGHBOUR: 'it returns false'. Refute it at one input. -/
def meshDispersesWrong : ChangeSpec := { name := "meshDisperses", fn := fun _ => fun
  | [d1, d2] => { results := [.lit (.bool false)], args := [d1, d2] }
  | _ => none }
def MeshDispersesWrongFalsely : Prop := meshDispersesRow.holds Tryz.pinned (OpenSpec.ofChange meshDispersesWrong)

/-- 'swathlaw06.MeshUndecided': WHATEVER THE INPUT: true; the input reads as it did. -/
def meshUndecidedSpec : ChangeSpec := { name := "meshUndecided", fn := fun _ => fun
  | [d] => { results := [.lit (.bool true)], args := [d] }
  | _ => none }
def meshUndecidedRow : OpenClaim := { program := "ytmohcmghbfhdlaagreat", sum := "9ce4816febec2460babc5ff75921bb438646ac6ca4b4806c61152ddb7f30eea6", func := "swath/swathlaw06.MeshUndecided", spec := "meshUndecided", unfollowed := true, recurses := true, plainKeys := false, apart := false }
def MeshUndecidedSaid : Prop := meshUndecidedRow.holds Tryz.pinned (OpenSpec.ofChange meshUndecidedSpec)

/-- ITS FALSE NEIGHBOUR: 'it returns false'. Refute it at one input. -/
def meshUndecidedWrong : ChangeSpec := { name := "meshUndecided", fn := fun _ => fun
  | [d] => { results := [.lit (.bool false)], args := [d] }
  | _ => none }
def MeshUndecidedWrongFalsely : Prop := meshUndecidedRow.holds Tryz.pinned (OpenSpec.ofChange meshUndecidedWrong)

/-- 'swathlaw06.MeshTriangulates': WHATEVER THE INPUT: true; the input reads as it did. -/
def meshTriangulatesSpec : ChangeSpec := { name := "meshTriangulates", fn := fun _ => fun
  | [d] => { results := [.lit (.bool true)], args := [d] }
  | _ => none }
def meshTriangulatesRow : OpenClaim := { program := "ytmohcmghbfhdlaagreat", sum := "9ce4816febec2460babc5ff75921bb438646ac6ca4b4806c61152ddb7f30eea6", func := "swath/swathlaw06.MeshTriangulates", spec := "meshTriangulates", unfollowed := true, recurses := true, plainKeys := false, apart := false }
def MeshTriangulatesSaid : Prop := meshTriangulatesRow.holds Tryz.pinned (OpenSpec.ofChange meshTriangulatesSpec)

/-- ITS FALSE NEIGHBOUR: 'it returns false'. Refute it at one input. -/
def meshTriangulatesWrong : ChangeSpec := { name := "meshTriangulates", fn := fun _ => fun
  | [d] => { results := [.lit (.bool false)], args := [d] }
  | _ => none }
def MeshTriangulatesWrongFalsely : Prop := meshTriangulatesRow.holds Tryz.pinned (OpenSpec.ofChange meshTriangulatesWrong)

/- THE SECOND FORM. 'bulk': how many values and letters a reading holds, each counted each time it is reached (what is shared counts as often as it is met; a slice's spare places count too). A statement '..UptoSaid' is the law's where the arguments, and the package variables that the reading takes, are together of bulk at most 1048576: NARROWER than '..Said'. Prove '..Said' where nothing that the law and all that it calls make is longer than what came in: it says more and counts as full. Else prove '..UptoSaid'. A law counts once. -/
mutual
def uptoBulk {H : Type} : DataW H → Nat
  | .lit (.string bytes) => bytes.length + 1
  | .lit _ => 1
  | .nil => 1
  | .ptr d => uptoBulk d + 1
  | .slice elems spare => uptoBulkAll elems + uptoBulkAll spare + 1
  | .agg parts => uptoBulkAll parts + 1
  | .iface _ d => uptoBulk d + 1
  | .map entries => uptoBulkEntries entries + 1
  | .held _ => 1
def uptoBulkAll {H : Type} : List (DataW H) → Nat
  | [] => 0
  | d :: r => uptoBulk d + uptoBulkAll r
def uptoBulkEntries {H : Type} : List (Lit × DataW H) → Nat
  | [] => 0
  | x :: r => uptoBulkEntry x + uptoBulkEntries r
def uptoBulkEntry {H : Type} : Lit × DataW H → Nat
  | (.string bytes, d) => bytes.length + uptoBulk d + 1
  | (_, d) => uptoBulk d + 1
 end
def uptoSmall : (H : Type) → List (DataW H) → Bool := fun _ ds => decide (uptoBulkAll ds ≤ 1048576)
def OpenSpec.upto (s : _root_.Go.ChangeSpec) : _root_.Go.OpenSpec := { _root_.Go.OpenSpec.ofChange s with cond := some uptoSmall }

/-- 'swathlaw06.MeshFields', WHERE WHAT IT READS IS OF BULK AT MOST 1048576: true; the input reads as it did. -/
def meshFieldsUptoRow : OpenClaim := { program := "ytmohcmghbfhdlaagreat", sum := "9ce4816febec2460babc5ff75921bb438646ac6ca4b4806c61152ddb7f30eea6", func := "swath/swathlaw06.MeshFields", spec := "meshFields", unfollowed := true, recurses := true, plainKeys := false, apart := false, narrowed := true }
def MeshFieldsUptoSaid : Prop := meshFieldsUptoRow.holds Tryz.pinned (OpenSpec.upto meshFieldsSpec)

/-- 'swathlaw06.MeshNets', WHERE WHAT IT READS IS OF BULK AT MOST 1048576: true; the input reads as it did. -/
def meshNetsUptoRow : OpenClaim := { program := "ytmohcmghbfhdlaagreat", sum := "9ce4816febec2460babc5ff75921bb438646ac6ca4b4806c61152ddb7f30eea6", func := "swath/swathlaw06.MeshNets", spec := "meshNets", unfollowed := true, recurses := true, plainKeys := false, apart := false, narrowed := true }
def MeshNetsUptoSaid : Prop := meshNetsUptoRow.holds Tryz.pinned (OpenSpec.upto meshNetsSpec)

/-- 'swathlaw06.MeshCloses', WHERE WHAT IT READS IS OF BULK AT MOST 1048576: true; the input reads as it did. -/
def meshClosesUptoRow : OpenClaim := { program := "ytmohcmghbfhdlaagreat", sum := "9ce4816febec2460babc5ff75921bb438646ac6ca4b4806c61152ddb7f30eea6", func := "swath/swathlaw06.MeshCloses", spec := "meshCloses", unfollowed := true, recurses := true, plainKeys := false, apart := false, narrowed := true }
def MeshClosesUptoSaid : Prop := meshClosesUptoRow.holds Tryz.pinned (OpenSpec.upto meshClosesSpec)

/-- 'swathlaw06.MeshComponents', WHERE WHAT IT READS IS OF BULK AT MOST 1048576: true; the input reads as it did. -/
def meshComponentsUptoRow : OpenClaim := { program := "ytmohcmghbfhdlaagreat", sum := "9ce4816febec2460babc5ff75921bb438646ac6ca4b4806c61152ddb7f30eea6", func := "swath/swathlaw06.MeshComponents", spec := "meshComponents", unfollowed := true, recurses := true, plainKeys := false, apart := false, narrowed := true }
def MeshComponentsUptoSaid : Prop := meshComponentsUptoRow.holds Tryz.pinned (OpenSpec.upto meshComponentsSpec)

/-- 'swathlaw06.MeshLegal', WHERE WHAT IT READS IS OF BULK AT MOST 1048576: true; the input reads as it did. -/
def meshLegalUptoRow : OpenClaim := { program := "ytmohcmghbfhdlaagreat", sum := "9ce4816febec2460babc5ff75921bb438646ac6ca4b4806c61152ddb7f30eea6", func := "swath/swathlaw06.MeshLegal", spec := "meshLegal", unfollowed := true, recurses := true, plainKeys := false, apart := false, narrowed := true }
def MeshLegalUptoSaid : Prop := meshLegalUptoRow.holds Tryz.pinned (OpenSpec.upto meshLegalSpec)

/-- 'swathlaw06.MeshProofs', WHERE WHAT IT READS IS OF BULK AT MOST 1048576: true; the input reads as it did. -/
def meshProofsUptoRow : OpenClaim := { program := "ytmohcmghbfhdlaagreat", sum := "9ce4816febec2460babc5ff75921bb438646ac6ca4b4806c61152ddb7f30eea6", func := "swath/swathlaw06.MeshProofs", spec := "meshProofs", unfollowed := true, recurses := true, plainKeys := false, apart := false, narrowed := true }
def MeshProofsUptoSaid : Prop := meshProofsUptoRow.holds Tryz.pinned (OpenSpec.upto meshProofsSpec)

/-- 'swathlaw06.MeshDisperses', WHERE WHAT IT READS IS OF BULK AT MOST 1048576: true; the input reads as it did. -/
def meshDispersesUptoRow : OpenClaim := { program := "ytmohcmghbfhdlaagreat", sum := "9ce4816febec2460babc5ff75921bb438646ac6ca4b4806c61152ddb7f30eea6", func := "swath/swathlaw06.MeshDisperses", spec := "meshDisperses", unfollowed := true, recurses := true, plainKeys := false, apart := false, narrowed := true }
def MeshDispersesUptoSaid : Prop := meshDispersesUptoRow.holds Tryz.pinned (OpenSpec.upto meshDispersesSpec)

/-- 'swathlaw06.MeshUndecided', WHERE WHAT IT READS IS OF BULK AT MOST 1048576: true; the input reads as it did. -/
def meshUndecidedUptoRow : OpenClaim := { program := "ytmohcmghbfhdlaagreat", sum := "9ce4816febec2460babc5ff75921bb438646ac6ca4b4806c61152ddb7f30eea6", func := "swath/swathlaw06.MeshUndecided", spec := "meshUndecided", unfollowed := true, recurses := true, plainKeys := false, apart := false, narrowed := true }
def MeshUndecidedUptoSaid : Prop := meshUndecidedUptoRow.holds Tryz.pinned (OpenSpec.upto meshUndecidedSpec)

/-- 'swathlaw06.MeshTriangulates', WHERE WHAT IT READS IS OF BULK AT MOST 1048576: true; the input reads as it did. -/
def meshTriangulatesUptoRow : OpenClaim := { program := "ytmohcmghbfhdlaagreat", sum := "9ce4816febec2460babc5ff75921bb438646ac6ca4b4806c61152ddb7f30eea6", func := "swath/swathlaw06.MeshTriangulates", spec := "meshTriangulates", unfollowed := true, recurses := true, plainKeys := false, apart := false, narrowed := true }
def MeshTriangulatesUptoSaid : Prop := meshTriangulatesUptoRow.holds Tryz.pinned (OpenSpec.upto meshTriangulatesSpec)

end Rows
end Go.Proofs.YtmohcmghbfhdlaaGreat
