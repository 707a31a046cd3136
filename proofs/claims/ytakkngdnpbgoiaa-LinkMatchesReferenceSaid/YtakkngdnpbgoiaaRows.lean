/-
  No cell of these rows narrows 'for every input' (looked for: loops, veiled, ifaces, maps, wideKeys, modest, calm, conditions, laid).
  DERIVED. THE GIVEN ROWS OF THIS SEAT. 6 by the template 'for every input the law returns true; each argument reads behind the call as it read before'; 0 by the template 'total and deterministic' (their statements: YtakkngdnpbgoiaaTotals.lean).
  GIVEN WITH THE SEED: the statements are not yours to turn. If you find one false, say at which input.
  Laid BY PROGRAM, IN A SANDBOX (cutbox-rows.mjs): the forced cells as the released guide's own fill.sh prints them over the translation 2054a67dab2b52f9… (all of the seat's roots in one cut). By AI agents, Wed Nov 11 2026. No macro, syntax, notation, axiom, sorry.
-/
import Derived.Test.YtakkngdnpbgoiaaChecked
import GoSem.Claim
import GoSem.ClaimJoined
import GoSem.ClaimMapViews
import Derived.JoinedTies
import Derived.KernelRfl
namespace Go.Proofs.Ytakkngdnpbgoiaa
/- THE CELL 'sum', in the pinned program and in every row, IS THE sha256 OF THE DUMP (.gsa) THAT YtakkngdnpbgoiaaProg.lean LOADS. Nothing in Lean hashes anything: it is a label: what it is worth is what the hold of that sum in a sandbox is worth. -/
noncomputable def Try.pinned : Pinned := { name := "ytakkngdnpbgoiaa", sum := "2054a67dab2b52f9b5658922ad67359bfc47e0e85594ff595caadec8e7d6d333", checked := Try.checked }
namespace Rows
def none {H : Type} : Left H := { results := [], args := [] }

/-- 'slotmeshlaw19.LinkMatchesReference': WHATEVER THE INPUT: true; the input reads as it did. -/
def linkMatchesReferenceSpec : ChangeSpec := { name := "linkMatchesReference", fn := fun _ => fun
  | [d1, d2, d3] => { results := [.lit (.bool true)], args := [d1, d2, d3] }
  | _ => none }
def linkMatchesReferenceRow : OpenClaim := { program := "ytakkngdnpbgoiaa", sum := "2054a67dab2b52f9b5658922ad67359bfc47e0e85594ff595caadec8e7d6d333", func := "slotmesh/slotmeshlaw19.LinkMatchesReference", spec := "linkMatchesReference", unfollowed := true, recurses := true, apart := false }
def LinkMatchesReferenceSaid : Prop := linkMatchesReferenceRow.holds Try.pinned (OpenSpec.ofChange linkMatchesReferenceSpec)

/-- ITS FALSE NEIGHBOUR: 'it returns false'. Refute it at one input. -/
def linkMatchesReferenceWrong : ChangeSpec := { name := "linkMatchesReference", fn := fun _ => fun
  | [d1, d2, d3] => { results := [.lit (.bool false)], args := [d1, d2, d3] }
  | _ => none }
def LinkMatchesReferenceWrongFalsely : Prop := linkMatchesReferenceRow.holds Try.pinned (OpenSpec.ofChange linkMatchesReferenceWrong)

/-- 'slotmeshlaw19.LinkValid': WHATEVER THE INPUT: true; the input reads as it did. -/
def linkValidSpec : ChangeSpec := { name := "linkValid", fn := fun _ => fun
  | [d1, d2, d3, d4] => { results := [.lit (.bool true)], args := [d1, d2, d3, d4] }
  | _ => none }
def linkValidRow : OpenClaim := { program := "ytakkngdnpbgoiaa", sum := "2054a67dab2b52f9b5658922ad67359bfc47e0e85594ff595caadec8e7d6d333", func := "slotmesh/slotmeshlaw19.LinkValid", spec := "linkValid", unfollowed := true, recurses := true, apart := false }
def LinkValidSaid : Prop := linkValidRow.holds Try.pinned (OpenSpec.ofChange linkValidSpec)

/-- ITS FALSE NEIGHBOUR: 'it returns false'. Refute it at one input. -/
def linkValidWrong : ChangeSpec := { name := "linkValid", fn := fun _ => fun
  | [d1, d2, d3, d4] => { results := [.lit (.bool false)], args := [d1, d2, d3, d4] }
  | _ => none }
def LinkValidWrongFalsely : Prop := linkValidRow.holds Try.pinned (OpenSpec.ofChange linkValidWrong)

/-- 'slotmeshlaw19.LinkBounds': WHATEVER THE INPUT: true; the input reads as it did. -/
def linkBoundsSpec : ChangeSpec := { name := "linkBounds", fn := fun _ => fun
  | [d1, d2] => { results := [.lit (.bool true)], args := [d1, d2] }
  | _ => none }
def linkBoundsRow : OpenClaim := { program := "ytakkngdnpbgoiaa", sum := "2054a67dab2b52f9b5658922ad67359bfc47e0e85594ff595caadec8e7d6d333", func := "slotmesh/slotmeshlaw19.LinkBounds", spec := "linkBounds", unfollowed := true, recurses := true, apart := false }
def LinkBoundsSaid : Prop := linkBoundsRow.holds Try.pinned (OpenSpec.ofChange linkBoundsSpec)

/-- ITS FALSE NEIGHBOUR: 'it returns false'. Refute it at one input. -/
def linkBoundsWrong : ChangeSpec := { name := "linkBounds", fn := fun _ => fun
  | [d1, d2] => { results := [.lit (.bool false)], args := [d1, d2] }
  | _ => none }
def LinkBoundsWrongFalsely : Prop := linkBoundsRow.holds Try.pinned (OpenSpec.ofChange linkBoundsWrong)

/-- 'slotmeshlaw19.LinkBetter': WHATEVER THE INPUT: true; the input reads as it did. -/
def linkBetterSpec : ChangeSpec := { name := "linkBetter", fn := fun _ => fun
  | [d1, d2] => { results := [.lit (.bool true)], args := [d1, d2] }
  | _ => none }
def linkBetterRow : OpenClaim := { program := "ytakkngdnpbgoiaa", sum := "2054a67dab2b52f9b5658922ad67359bfc47e0e85594ff595caadec8e7d6d333", func := "slotmesh/slotmeshlaw19.LinkBetter", spec := "linkBetter", unfollowed := true, recurses := true, apart := false }
def LinkBetterSaid : Prop := linkBetterRow.holds Try.pinned (OpenSpec.ofChange linkBetterSpec)

/-- ITS FALSE NEIGHBOUR: 'it returns false'. Refute it at one input. -/
def linkBetterWrong : ChangeSpec := { name := "linkBetter", fn := fun _ => fun
  | [d1, d2] => { results := [.lit (.bool false)], args := [d1, d2] }
  | _ => none }
def LinkBetterWrongFalsely : Prop := linkBetterRow.holds Try.pinned (OpenSpec.ofChange linkBetterWrong)

/-- 'slotmeshlaw19.LinkRecovery': WHATEVER THE INPUT: true; the input reads as it did. -/
def linkRecoverySpec : ChangeSpec := { name := "linkRecovery", fn := fun _ => fun
  | [d1, d2] => { results := [.lit (.bool true)], args := [d1, d2] }
  | _ => none }
def linkRecoveryRow : OpenClaim := { program := "ytakkngdnpbgoiaa", sum := "2054a67dab2b52f9b5658922ad67359bfc47e0e85594ff595caadec8e7d6d333", func := "slotmesh/slotmeshlaw19.LinkRecovery", spec := "linkRecovery", unfollowed := true, recurses := true, apart := false }
def LinkRecoverySaid : Prop := linkRecoveryRow.holds Try.pinned (OpenSpec.ofChange linkRecoverySpec)

/-- ITS FALSE NEIGHBOUR: 'it returns false'. Refute it at one input. -/
def linkRecoveryWrong : ChangeSpec := { name := "linkRecovery", fn := fun _ => fun
  | [d1, d2] => { results := [.lit (.bool false)], args := [d1, d2] }
  | _ => none }
def LinkRecoveryWrongFalsely : Prop := linkRecoveryRow.holds Try.pinned (OpenSpec.ofChange linkRecoveryWrong)

/-- 'slotmeshlaw19.LinkIndependence': WHATEVER THE INPUT: true; the input reads as it did. -/
def linkIndependenceSpec : ChangeSpec := { name := "linkIndependence", fn := fun _ => fun
  | [d1, d2, d3, d4, d5] => { results := [.lit (.bool true)], args := [d1, d2, d3, d4, d5] }
  | _ => none }
def linkIndependenceRow : OpenClaim := { program := "ytakkngdnpbgoiaa", sum := "2054a67dab2b52f9b5658922ad67359bfc47e0e85594ff595caadec8e7d6d333", func := "slotmesh/slotmeshlaw19.LinkIndependence", spec := "linkIndependence", unfollowed := true, recurses := true, apart := false }
def LinkIndependenceSaid : Prop := linkIndependenceRow.holds Try.pinned (OpenSpec.ofChange linkIndependenceSpec)

/-- ITS FALSE NEIGHBOUR: 'it returns false'. Refute it at one input. -/
def linkIndependenceWrong : ChangeSpec := { name := "linkIndependence", fn := fun _ => fun
  | [d1, d2, d3, d4, d5] => { results := [.lit (.bool false)], args := [d1, d2, d3, d4, d5] }
  | _ => none }
def LinkIndependenceWrongFalsely : Prop := linkIndependenceRow.holds Try.pinned (OpenSpec.ofChange linkIndependenceWrong)

/- THE SECOND FORM. 'bulk': how many values and letters a reading holds, each counted each time it is reached (what is shared counts as often as it is met; a slice's spare places count too). A statement '..UptoSaid' is the law's where the arguments, and the package variables that the reading takes, are together of bulk at most 1048576: NARROWER than '..Said'. Prove '..Said' where nothing that the law and all that it calls make is longer than what came in: it says more and counts as full. Else prove '..UptoSaid'. A law counts once. -/
mutual
def uptoBulk {H : Type} : DataW H → Nat
  | .lit (.string bytes) => bytes.length + 1
  | .lit _ => 1
  | .nil => 1
  | .ptr d => uptoBulk d + 1
  | .slice elems spare => uptoBulkAll elems + uptoBulkAll spare + 1
  | .agg parts => uptoBulkAll parts + 1
  | .iface _ d => uptoBulk d + 1
  | .map entries => uptoBulkEntries entries + 1
  | .held _ => 1
def uptoBulkAll {H : Type} : List (DataW H) → Nat
  | [] => 0
  | d :: r => uptoBulk d + uptoBulkAll r
def uptoBulkEntries {H : Type} : List (Lit × DataW H) → Nat
  | [] => 0
  | x :: r => uptoBulkEntry x + uptoBulkEntries r
def uptoBulkEntry {H : Type} : Lit × DataW H → Nat
  | (.string bytes, d) => bytes.length + uptoBulk d + 1
  | (_, d) => uptoBulk d + 1
 end
def uptoSmall : (H : Type) → List (DataW H) → Bool := fun _ ds => decide (uptoBulkAll ds ≤ 1048576)
def OpenSpec.upto (s : _root_.Go.ChangeSpec) : _root_.Go.OpenSpec := { _root_.Go.OpenSpec.ofChange s with cond := some uptoSmall }

/-- 'slotmeshlaw19.LinkMatchesReference', WHERE WHAT IT READS IS OF BULK AT MOST 1048576: true; the input reads as it did. -/
def linkMatchesReferenceUptoRow : OpenClaim := { program := "ytakkngdnpbgoiaa", sum := "2054a67dab2b52f9b5658922ad67359bfc47e0e85594ff595caadec8e7d6d333", func := "slotmesh/slotmeshlaw19.LinkMatchesReference", spec := "linkMatchesReference", unfollowed := true, recurses := true, apart := false, narrowed := true }
def LinkMatchesReferenceUptoSaid : Prop := linkMatchesReferenceUptoRow.holds Try.pinned (OpenSpec.upto linkMatchesReferenceSpec)

/-- 'slotmeshlaw19.LinkValid', WHERE WHAT IT READS IS OF BULK AT MOST 1048576: true; the input reads as it did. -/
def linkValidUptoRow : OpenClaim := { program := "ytakkngdnpbgoiaa", sum := "2054a67dab2b52f9b5658922ad67359bfc47e0e85594ff595caadec8e7d6d333", func := "slotmesh/slotmeshlaw19.LinkValid", spec := "linkValid", unfollowed := true, recurses := true, apart := false, narrowed := true }
def LinkValidUptoSaid : Prop := linkValidUptoRow.holds Try.pinned (OpenSpec.upto linkValidSpec)

/-- 'slotmeshlaw19.LinkBounds', WHERE WHAT IT READS IS OF BULK AT MOST 1048576: true; the input reads as it did. -/
def linkBoundsUptoRow : OpenClaim := { program := "ytakkngdnpbgoiaa", sum := "2054a67dab2b52f9b5658922ad67359bfc47e0e85594ff595caadec8e7d6d333", func := "slotmesh/slotmeshlaw19.LinkBounds", spec := "linkBounds", unfollowed := true, recurses := true, apart := false, narrowed := true }
def LinkBoundsUptoSaid : Prop := linkBoundsUptoRow.holds Try.pinned (OpenSpec.upto linkBoundsSpec)

/-- 'slotmeshlaw19.LinkBetter', WHERE WHAT IT READS IS OF BULK AT MOST 1048576: true; the input reads as it did. -/
def linkBetterUptoRow : OpenClaim := { program := "ytakkngdnpbgoiaa", sum := "2054a67dab2b52f9b5658922ad67359bfc47e0e85594ff595caadec8e7d6d333", func := "slotmesh/slotmeshlaw19.LinkBetter", spec := "linkBetter", unfollowed := true, recurses := true, apart := false, narrowed := true }
def LinkBetterUptoSaid : Prop := linkBetterUptoRow.holds Try.pinned (OpenSpec.upto linkBetterSpec)

/-- 'slotmeshlaw19.LinkRecovery', WHERE WHAT IT READS IS OF BULK AT MOST 1048576: true; the input reads as it did. -/
def linkRecoveryUptoRow : OpenClaim := { program := "ytakkngdnpbgoiaa", sum := "2054a67dab2b52f9b5658922ad67359bfc47e0e85594ff595caadec8e7d6d333", func := "slotmesh/slotmeshlaw19.LinkRecovery", spec := "linkRecovery", unfollowed := true, recurses := true, apart := false, narrowed := true }
def LinkRecoveryUptoSaid : Prop := linkRecoveryUptoRow.holds Try.pinned (OpenSpec.upto linkRecoverySpec)

/-- 'slotmeshlaw19.LinkIndependence', WHERE WHAT IT READS IS OF BULK AT MOST 1048576: true; the input reads as it did. -/
def linkIndependenceUptoRow : OpenClaim := { program := "ytakkngdnpbgoiaa", sum := "2054a67dab2b52f9b5658922ad67359bfc47e0e85594ff595caadec8e7d6d333", func := "slotmesh/slotmeshlaw19.LinkIndependence", spec := "linkIndependence", unfollowed := true, recurses := true, apart := false, narrowed := true }
def LinkIndependenceUptoSaid : Prop := linkIndependenceUptoRow.holds Try.pinned (OpenSpec.upto linkIndependenceSpec)

end Rows
end Go.Proofs.Ytakkngdnpbgoiaa
