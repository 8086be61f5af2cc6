/-
  No cell of these rows narrows 'for every input' (looked for: loops, veiled, ifaces, maps, wideKeys, modest, calm, conditions, laid).
  DERIVED. THE GIVEN ROWS OF THIS SEAT. 3 by the template 'for every input the law returns true; each argument reads behind the call as it read before'; 0 by the template 'total and deterministic' (their statements: YthcphdgfdkgimaaTotals.lean).
  GIVEN WITH THE SEED: the statements are not yours to turn. If you find one false, say at which input.
  Laid BY PROGRAM, IN A SANDBOX (cutbox-rows.mjs): the forced cells as the released guide's own fill.sh prints them over the translation 51422140fcc705e7… (all of the seat's roots in one cut). By AI agents, Wed Nov 11 2026. No macro, syntax, notation, axiom, sorry.
-/
import Derived.Test.YthcphdgfdkgimaaChecked
import GoSem.Claim
import GoSem.ClaimJoined
import GoSem.ClaimMapViews
import Derived.JoinedTies
import Derived.KernelRfl
namespace Go.Proofs.Ythcphdgfdkgimaa
/- THE CELL 'sum', in the pinned program and in every row, IS THE sha256 OF THE DUMP (.gsa) THAT YthcphdgfdkgimaaProg.lean LOADS. Nothing in Lean hashes anything: it is a label: what it is worth is what the hold of that sum in a sandbox is worth. -/
noncomputable def Try.pinned : Pinned := { name := "ythcphdgfdkgimaa", sum := "51422140fcc705e72211e07dc677d3678f06719658f577d103b0b022ff949734", checked := Try.checked }
namespace Rows
def none {H : Type} : Left H := { results := [], args := [] }

/-- 'fenlandlaw06.SchemaFitsMatchesReference': WHATEVER THE INPUT: true; the input reads as it did. -/
def schemaFitsMatchesReferenceSpec : ChangeSpec := { name := "schemaFitsMatchesReference", fn := fun _ => fun
  | [d1, d2, d3] => { results := [.lit (.bool true)], args := [d1, d2, d3] }
  | _ => none }
def schemaFitsMatchesReferenceRow : OpenClaim := { program := "ythcphdgfdkgimaa", sum := "51422140fcc705e72211e07dc677d3678f06719658f577d103b0b022ff949734", func := "fenland/fenlandlaw06.SchemaFitsMatchesReference", spec := "schemaFitsMatchesReference", unfollowed := true, recurses := true, plainKeys := false, apart := false }
def SchemaFitsMatchesReferenceSaid : Prop := schemaFitsMatchesReferenceRow.holds Try.pinned (OpenSpec.ofChange schemaFitsMatchesReferenceSpec)

/-- ITS FALSE NEIGHBOUR: 'it returns false'. Refute it at one input. -/
def schemaFitsMatchesReferenceWrong : ChangeSpec := { name := "schemaFitsMatchesReference", fn := fun _ => fun
  | [d1, d2, d3] => { results := [.lit (.bool false)], args := [d1, d2, d3] }
  | _ => none }
def SchemaFitsMatchesReferenceWrongFalsely : Prop := schemaFitsMatchesReferenceRow.holds Try.pinned (OpenSpec.ofChange schemaFitsMatchesReferenceWrong)

/-- 'fenlandlaw06.SchemaRowsKeepFitting': WHATEVER THE INPUT: true; the input reads as it did. -/
def schemaRowsKeepFittingSpec : ChangeSpec := { name := "schemaRowsKeepFitting", fn := fun _ => fun
  | [d1, d2, d3] => { results := [.lit (.bool true)], args := [d1, d2, d3] }
  | _ => none }
def schemaRowsKeepFittingRow : OpenClaim := { program := "ythcphdgfdkgimaa", sum := "51422140fcc705e72211e07dc677d3678f06719658f577d103b0b022ff949734", func := "fenland/fenlandlaw06.SchemaRowsKeepFitting", spec := "schemaRowsKeepFitting", unfollowed := true, recurses := true, plainKeys := false, apart := false }
def SchemaRowsKeepFittingSaid : Prop := schemaRowsKeepFittingRow.holds Try.pinned (OpenSpec.ofChange schemaRowsKeepFittingSpec)

/-- ITS FALSE NEIGHBOUR: 'it returns false'. Refute it at one input. -/
def schemaRowsKeepFittingWrong : ChangeSpec := { name := "schemaRowsKeepFitting", fn := fun _ => fun
  | [d1, d2, d3] => { results := [.lit (.bool false)], args := [d1, d2, d3] }
  | _ => none }
def SchemaRowsKeepFittingWrongFalsely : Prop := schemaRowsKeepFittingRow.holds Try.pinned (OpenSpec.ofChange schemaRowsKeepFittingWrong)

/-- 'fenlandlaw06.SchemaMatchesReference': WHATEVER THE INPUT: true; the input reads as it did. -/
def schemaMatchesReferenceSpec : ChangeSpec := { name := "schemaMatchesReference", fn := fun _ => fun
  | [d1, d2, d3] => { results := [.lit (.bool true)], args := [d1, d2, d3] }
  | _ => none }
def schemaMatchesReferenceRow : OpenClaim := { program := "ythcphdgfdkgimaa", sum := "51422140fcc705e72211e07dc677d3678f06719658f577d103b0b022ff949734", func := "fenland/fenlandlaw06.SchemaMatchesReference", spec := "schemaMatchesReference", unfollowed := true, recurses := true, plainKeys := false, apart := false }
def SchemaMatchesReferenceSaid : Prop := schemaMatchesReferenceRow.holds Try.pinned (OpenSpec.ofChange schemaMatchesReferenceSpec)

/-- ITS FALSE NEIGHBOUR: 'it returns false'. Refute it at one input. -/
def schemaMatchesReferenceWrong : ChangeSpec := { name := "schemaMatchesReference", fn := fun _ => fun
  | [d1, d2, d3] => { results := [.lit (.bool false)], args := [d1, d2, d3] }
  | _ => none }
def SchemaMatchesReferenceWrongFalsely : Prop := schemaMatchesReferenceRow.holds Try.pinned (OpenSpec.ofChange schemaMatchesReferenceWrong)

/- THE SECOND FORM. 'bulk': how many values and letters a reading holds, each counted each time it is reached (what is shared counts as often as it is met; a slice's spare places count too). A statement '..UptoSaid' is the law's where the arguments, and the package variables that the reading takes, are together of bulk at most 1048576: NARROWER than '..Said'. Prove '..Said' where nothing that the law and all that it calls make is longer than what came in: it says more and counts as full. Else prove '..UptoSaid'. A law counts once. -/
mutual
def uptoBulk {H : Type} : DataW H → Nat
  | .lit (.string bytes) => bytes.length + 1
  | .lit _ => 1
  | .nil => 1
  | .ptr d => uptoBulk d + 1
  | .slice elems spare => uptoBulkAll elems + uptoBulkAll spare + 1
  | .agg parts => uptoBulkAll parts + 1
  | .iface _ d => uptoBulk d + 1
  | .map entries => uptoBulkEntries entries + 1
  | .held _ => 1
def uptoBulkAll {H : Type} : List (DataW H) → Nat
  | [] => 0
  | d :: r => uptoBulk d + uptoBulkAll r
def uptoBulkEntries {H : Type} : List (Lit × DataW H) → Nat
  | [] => 0
  | x :: r => uptoBulkEntry x + uptoBulkEntries r
def uptoBulkEntry {H : Type} : Lit × DataW H → Nat
  | (.string bytes, d) => bytes.length + uptoBulk d + 1
  | (_, d) => uptoBulk d + 1
 end
def uptoSmall : (H : Type) → List (DataW H) → Bool := fun _ ds => decide (uptoBulkAll ds ≤ 1048576)
def OpenSpec.upto (s : _root_.Go.ChangeSpec) : _root_.Go.OpenSpec := { _root_.Go.OpenSpec.ofChange s with cond := some uptoSmall }

/-- 'fenlandlaw06.SchemaFitsMatchesReference', WHERE WHAT IT READS IS OF BULK AT MOST 1048576: true; the input reads as it did. -/
def schemaFitsMatchesReferenceUptoRow : OpenClaim := { program := "ythcphdgfdkgimaa", sum := "51422140fcc705e72211e07dc677d3678f06719658f577d103b0b022ff949734", func := "fenland/fenlandlaw06.SchemaFitsMatchesReference", spec := "schemaFitsMatchesReference", unfollowed := true, recurses := true, plainKeys := false, apart := false, narrowed := true }
def SchemaFitsMatchesReferenceUptoSaid : Prop := schemaFitsMatchesReferenceUptoRow.holds Try.pinned (OpenSpec.upto schemaFitsMatchesReferenceSpec)

/-- 'fenlandlaw06.SchemaRowsKeepFitting', WHERE WHAT IT READS IS OF BULK AT MOST 1048576: true; the input reads as it did. -/
def schemaRowsKeepFittingUptoRow : OpenClaim := { program := "ythcphdgfdkgimaa", sum := "51422140fcc705e72211e07dc677d3678f06719658f577d103b0b022ff949734", func := "fenland/fenlandlaw06.SchemaRowsKeepFitting", spec := "schemaRowsKeepFitting", unfollowed := true, recurses := true, plainKeys := false, apart := false, narrowed := true }
def SchemaRowsKeepFittingUptoSaid : Prop := schemaRowsKeepFittingUptoRow.holds Try.pinned (OpenSpec.upto schemaRowsKeepFittingSpec)

/-- 'fenlandlaw06.SchemaMatchesReference', WHERE WHAT IT READS IS OF BULK AT MOST 1048576: true; the input reads as it did. -/
def schemaMatchesReferenceUptoRow : OpenClaim := { program := "ythcphdgfdkgimaa", sum := "51422140fcc705e72211e07dc677d3678f06719658f577d103b0b022ff949734", func := "fenland/fenlandlaw06.SchemaMatchesReference", spec := "schemaMatchesReference", unfollowed := true, recurses := true, plainKeys := false, apart := false, narrowed := true }
def SchemaMatchesReferenceUptoSaid : Prop := schemaMatchesReferenceUptoRow.holds Try.pinned (OpenSpec.upto schemaMatchesReferenceSpec)

end Rows
end Go.Proofs.Ythcphdgfdkgimaa
