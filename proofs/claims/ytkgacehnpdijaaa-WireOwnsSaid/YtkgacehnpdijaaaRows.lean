/-
  No cell of these rows narrows 'for every input' (looked for: loops, veiled, ifaces, maps, wideKeys, modest, calm, conditions, laid).
  DERIVED. THE GIVEN ROWS OF THIS SEAT. 9 by the template 'for every input the law returns true; each argument reads behind the call as it read before'; 0 by the template 'total and deterministic' (their statements: YtkgacehnpdijaaaTotals.lean).
  GIVEN WITH THE SEED: the statements are not yours to turn. If you find one false, say at which input.
  Laid BY PROGRAM, IN A SANDBOX (cutbox-rows.mjs): the forced cells as the released guide's own fill.sh prints them over the translation e75c725ce07ece34… (all of the seat's roots in one cut). By AI agents, Wed Nov 11 2026. No macro, syntax, notation, axiom, sorry.
-/
import Derived.Test.YtkgacehnpdijaaaChecked
import GoSem.Claim
import GoSem.ClaimJoined
import GoSem.ClaimMapViews
import Derived.JoinedTies
import Derived.KernelRfl
namespace Go.Proofs.Ytkgacehnpdijaaa
/- THE CELL 'sum', in the pinned program and in every row, IS THE sha256 OF THE DUMP (.gsa) THAT YtkgacehnpdijaaaProg.lean LOADS. Nothing in Lean hashes anything: it is a label: what it is worth is what the hold of that sum in a sandbox is worth. -/
noncomputable def Try.pinned : Pinned := { name := "ytkgacehnpdijaaa", sum := "e75c725ce07ece34bfa057621128db11ba738fb74e766d5e1315957ccd230365", checked := Try.checked }
namespace Rows
def none {H : Type} : Left H := { results := [], args := [] }

/-- 'confluencelaw04.WireEncodes': WHATEVER THE INPUT: true; the input reads as it did. -/
def wireEncodesSpec : ChangeSpec := { name := "wireEncodes", fn := fun _ => fun
  | [d1, d2] => { results := [.lit (.bool true)], args := [d1, d2] }
  | _ => none }
def wireEncodesRow : OpenClaim := { program := "ytkgacehnpdijaaa", sum := "e75c725ce07ece34bfa057621128db11ba738fb74e766d5e1315957ccd230365", func := "confluence/confluencelaw04.WireEncodes", spec := "wireEncodes", recurses := true, apart := false }
def WireEncodesSaid : Prop := wireEncodesRow.holds Try.pinned (OpenSpec.ofChange wireEncodesSpec)

/-- ITS FALSE NEIGHBOUR: 'it returns false'. Refute it at one input. -/
def wireEncodesWrong : ChangeSpec := { name := "wireEncodes", fn := fun _ => fun
  | [d1, d2] => { results := [.lit (.bool false)], args := [d1, d2] }
  | _ => none }
def WireEncodesWrongFalsely : Prop := wireEncodesRow.holds Try.pinned (OpenSpec.ofChange wireEncodesWrong)

/-- 'confluencelaw04.WireApart': WHATEVER THE INPUT: true; the input reads as it did. -/
def wireApartSpec : ChangeSpec := { name := "wireApart", fn := fun _ => fun
  | [d1, d2] => { results := [.lit (.bool true)], args := [d1, d2] }
  | _ => none }
def wireApartRow : OpenClaim := { program := "ytkgacehnpdijaaa", sum := "e75c725ce07ece34bfa057621128db11ba738fb74e766d5e1315957ccd230365", func := "confluence/confluencelaw04.WireApart", spec := "wireApart", apart := false }
def WireApartSaid : Prop := wireApartRow.holds Try.pinned (OpenSpec.ofChange wireApartSpec)

/-- ITS FALSE NEIGHBOUR: 'it returns false'. Refute it at one input. -/
def wireApartWrong : ChangeSpec := { name := "wireApart", fn := fun _ => fun
  | [d1, d2] => { results := [.lit (.bool false)], args := [d1, d2] }
  | _ => none }
def WireApartWrongFalsely : Prop := wireApartRow.holds Try.pinned (OpenSpec.ofChange wireApartWrong)

/-- 'confluencelaw04.WireAgrees': WHATEVER THE INPUT: true; the input reads as it did. -/
def wireAgreesSpec : ChangeSpec := { name := "wireAgrees", fn := fun _ => fun
  | [d1, d2, d3] => { results := [.lit (.bool true)], args := [d1, d2, d3] }
  | _ => none }
def wireAgreesRow : OpenClaim := { program := "ytkgacehnpdijaaa", sum := "e75c725ce07ece34bfa057621128db11ba738fb74e766d5e1315957ccd230365", func := "confluence/confluencelaw04.WireAgrees", spec := "wireAgrees", apart := false }
def WireAgreesSaid : Prop := wireAgreesRow.holds Try.pinned (OpenSpec.ofChange wireAgreesSpec)

/-- ITS FALSE NEIGHBOUR: 'it returns false'. Refute it at one input. -/
def wireAgreesWrong : ChangeSpec := { name := "wireAgrees", fn := fun _ => fun
  | [d1, d2, d3] => { results := [.lit (.bool false)], args := [d1, d2, d3] }
  | _ => none }
def WireAgreesWrongFalsely : Prop := wireAgreesRow.holds Try.pinned (OpenSpec.ofChange wireAgreesWrong)

/-- 'confluencelaw04.WireDecodes': WHATEVER THE INPUT: true; the input reads as it did. -/
def wireDecodesSpec : ChangeSpec := { name := "wireDecodes", fn := fun _ => fun
  | [d1, d2] => { results := [.lit (.bool true)], args := [d1, d2] }
  | _ => none }
def wireDecodesRow : OpenClaim := { program := "ytkgacehnpdijaaa", sum := "e75c725ce07ece34bfa057621128db11ba738fb74e766d5e1315957ccd230365", func := "confluence/confluencelaw04.WireDecodes", spec := "wireDecodes", unfollowed := true, recurses := true, apart := false }
def WireDecodesSaid : Prop := wireDecodesRow.holds Try.pinned (OpenSpec.ofChange wireDecodesSpec)

/-- ITS FALSE NEIGHBOUR: 'it returns false'. Refute it at one input. -/
def wireDecodesWrong : ChangeSpec := { name := "wireDecodes", fn := fun _ => fun
  | [d1, d2] => { results := [.lit (.bool false)], args := [d1, d2] }
  | _ => none }
def WireDecodesWrongFalsely : Prop := wireDecodesRow.holds Try.pinned (OpenSpec.ofChange wireDecodesWrong)

/-- 'confluencelaw04.WireBack': WHATEVER THE INPUT: true; the input reads as it did. -/
def wireBackSpec : ChangeSpec := { name := "wireBack", fn := fun _ => fun
  | [d1, d2] => { results := [.lit (.bool true)], args := [d1, d2] }
  | _ => none }
def wireBackRow : OpenClaim := { program := "ytkgacehnpdijaaa", sum := "e75c725ce07ece34bfa057621128db11ba738fb74e766d5e1315957ccd230365", func := "confluence/confluencelaw04.WireBack", spec := "wireBack", unfollowed := true, recurses := true, apart := false }
def WireBackSaid : Prop := wireBackRow.holds Try.pinned (OpenSpec.ofChange wireBackSpec)

/-- ITS FALSE NEIGHBOUR: 'it returns false'. Refute it at one input. -/
def wireBackWrong : ChangeSpec := { name := "wireBack", fn := fun _ => fun
  | [d1, d2] => { results := [.lit (.bool false)], args := [d1, d2] }
  | _ => none }
def WireBackWrongFalsely : Prop := wireBackRow.holds Try.pinned (OpenSpec.ofChange wireBackWrong)

/-- 'confluencelaw04.WireOnly': WHATEVER THE INPUT: true; the input reads as it did. -/
def wireOnlySpec : ChangeSpec := { name := "wireOnly", fn := fun _ => fun
  | [d1, d2] => { results := [.lit (.bool true)], args := [d1, d2] }
  | _ => none }
def wireOnlyRow : OpenClaim := { program := "ytkgacehnpdijaaa", sum := "e75c725ce07ece34bfa057621128db11ba738fb74e766d5e1315957ccd230365", func := "confluence/confluencelaw04.WireOnly", spec := "wireOnly", unfollowed := true, recurses := true, apart := false }
def WireOnlySaid : Prop := wireOnlyRow.holds Try.pinned (OpenSpec.ofChange wireOnlySpec)

/-- ITS FALSE NEIGHBOUR: 'it returns false'. Refute it at one input. -/
def wireOnlyWrong : ChangeSpec := { name := "wireOnly", fn := fun _ => fun
  | [d1, d2] => { results := [.lit (.bool false)], args := [d1, d2] }
  | _ => none }
def WireOnlyWrongFalsely : Prop := wireOnlyRow.holds Try.pinned (OpenSpec.ofChange wireOnlyWrong)

/-- 'confluencelaw04.WireSpoilt': WHATEVER THE INPUT: true; the input reads as it did. -/
def wireSpoiltSpec : ChangeSpec := { name := "wireSpoilt", fn := fun _ => fun
  | [d1, d2, d3, d4] => { results := [.lit (.bool true)], args := [d1, d2, d3, d4] }
  | _ => none }
def wireSpoiltRow : OpenClaim := { program := "ytkgacehnpdijaaa", sum := "e75c725ce07ece34bfa057621128db11ba738fb74e766d5e1315957ccd230365", func := "confluence/confluencelaw04.WireSpoilt", spec := "wireSpoilt", unfollowed := true, recurses := true, apart := false }
def WireSpoiltSaid : Prop := wireSpoiltRow.holds Try.pinned (OpenSpec.ofChange wireSpoiltSpec)

/-- ITS FALSE NEIGHBOUR: 'it returns false'. Refute it at one input. -/
def wireSpoiltWrong : ChangeSpec := { name := "wireSpoilt", fn := fun _ => fun
  | [d1, d2, d3, d4] => { results := [.lit (.bool false)], args := [d1, d2, d3, d4] }
  | _ => none }
def WireSpoiltWrongFalsely : Prop := wireSpoiltRow.holds Try.pinned (OpenSpec.ofChange wireSpoiltWrong)

/-- 'confluencelaw04.WireOwns': WHATEVER THE INPUT: true; the input reads as it did. -/
def wireOwnsSpec : ChangeSpec := { name := "wireOwns", fn := fun _ => fun
  | [d] => { results := [.lit (.bool true)], args := [d] }
  | _ => none }
def wireOwnsRow : OpenClaim := { program := "ytkgacehnpdijaaa", sum := "e75c725ce07ece34bfa057621128db11ba738fb74e766d5e1315957ccd230365", func := "confluence/confluencelaw04.WireOwns", spec := "wireOwns", unfollowed := true, recurses := true, apart := false }
def WireOwnsSaid : Prop := wireOwnsRow.holds Try.pinned (OpenSpec.ofChange wireOwnsSpec)

/-- ITS FALSE NEIGHBOUR: 'it returns false'. Refute it at one input. -/
def wireOwnsWrong : ChangeSpec := { name := "wireOwns", fn := fun _ => fun
  | [d] => { results := [.lit (.bool false)], args := [d] }
  | _ => none }
def WireOwnsWrongFalsely : Prop := wireOwnsRow.holds Try.pinned (OpenSpec.ofChange wireOwnsWrong)

/-- 'confluencelaw04.WireTurns': WHATEVER THE INPUT: true; the input reads as it did. -/
def wireTurnsSpec : ChangeSpec := { name := "wireTurns", fn := fun _ => fun
  | [d1, d2, d3] => { results := [.lit (.bool true)], args := [d1, d2, d3] }
  | _ => none }
def wireTurnsRow : OpenClaim := { program := "ytkgacehnpdijaaa", sum := "e75c725ce07ece34bfa057621128db11ba738fb74e766d5e1315957ccd230365", func := "confluence/confluencelaw04.WireTurns", spec := "wireTurns", unfollowed := true, recurses := true, apart := false }
def WireTurnsSaid : Prop := wireTurnsRow.holds Try.pinned (OpenSpec.ofChange wireTurnsSpec)

/-- ITS FALSE NEIGHBOUR: 'it returns false'. Refute it at one input. -/
def wireTurnsWrong : ChangeSpec := { name := "wireTurns", fn := fun _ => fun
  | [d1, d2, d3] => { results := [.lit (.bool false)], args := [d1, d2, d3] }
  | _ => none }
def WireTurnsWrongFalsely : Prop := wireTurnsRow.holds Try.pinned (OpenSpec.ofChange wireTurnsWrong)

/- THE SECOND FORM. 'bulk': how many values and letters a reading holds, each counted each time it is reached (what is shared counts as often as it is met; a slice's spare places count too). A statement '..UptoSaid' is the law's where the arguments, and the package variables that the reading takes, are together of bulk at most 1048576: NARROWER than '..Said'. Prove '..Said' where nothing that the law and all that it calls make is longer than what came in: it says more and counts as full. Else prove '..UptoSaid'. A law counts once. -/
mutual
def uptoBulk {H : Type} : DataW H → Nat
  | .lit (.string bytes) => bytes.length + 1
  | .lit _ => 1
  | .nil => 1
  | .ptr d => uptoBulk d + 1
  | .slice elems spare => uptoBulkAll elems + uptoBulkAll spare + 1
  | .agg parts => uptoBulkAll parts + 1
  | .iface _ d => uptoBulk d + 1
  | .map entries => uptoBulkEntries entries + 1
  | .held _ => 1
def uptoBulkAll {H : Type} : List (DataW H) → Nat
  | [] => 0
  | d :: r => uptoBulk d + uptoBulkAll r
def uptoBulkEntries {H : Type} : List (Lit × DataW H) → Nat
  | [] => 0
  | x :: r => uptoBulkEntry x + uptoBulkEntries r
def uptoBulkEntry {H : Type} : Lit × DataW H → Nat
  | (.string bytes, d) => bytes.length + uptoBulk d + 1
  | (_, d) => uptoBulk d + 1
 end
def uptoSmall : (H : Type) → List (DataW H) → Bool := fun _ ds => decide (uptoBulkAll ds ≤ 1048576)
def OpenSpec.upto (s : _root_.Go.ChangeSpec) : _root_.Go.OpenSpec := { _root_.Go.OpenSpec.ofChange s with cond := some uptoSmall }

/-- 'confluencelaw04.WireEncodes', WHERE WHAT IT READS IS OF BULK AT MOST 1048576: true; the input reads as it did. -/
def wireEncodesUptoRow : OpenClaim := { program := "ytkgacehnpdijaaa", sum := "e75c725ce07ece34bfa057621128db11ba738fb74e766d5e1315957ccd230365", func := "confluence/confluencelaw04.WireEncodes", spec := "wireEncodes", recurses := true, apart := false, narrowed := true }
def WireEncodesUptoSaid : Prop := wireEncodesUptoRow.holds Try.pinned (OpenSpec.upto wireEncodesSpec)

/-- 'confluencelaw04.WireApart', WHERE WHAT IT READS IS OF BULK AT MOST 1048576: true; the input reads as it did. -/
def wireApartUptoRow : OpenClaim := { program := "ytkgacehnpdijaaa", sum := "e75c725ce07ece34bfa057621128db11ba738fb74e766d5e1315957ccd230365", func := "confluence/confluencelaw04.WireApart", spec := "wireApart", apart := false, narrowed := true }
def WireApartUptoSaid : Prop := wireApartUptoRow.holds Try.pinned (OpenSpec.upto wireApartSpec)

/-- 'confluencelaw04.WireAgrees', WHERE WHAT IT READS IS OF BULK AT MOST 1048576: true; the input reads as it did. -/
def wireAgreesUptoRow : OpenClaim := { program := "ytkgacehnpdijaaa", sum := "e75c725ce07ece34bfa057621128db11ba738fb74e766d5e1315957ccd230365", func := "confluence/confluencelaw04.WireAgrees", spec := "wireAgrees", apart := false, narrowed := true }
def WireAgreesUptoSaid : Prop := wireAgreesUptoRow.holds Try.pinned (OpenSpec.upto wireAgreesSpec)

/-- 'confluencelaw04.WireDecodes', WHERE WHAT IT READS IS OF BULK AT MOST 1048576: true; the input reads as it did. -/
def wireDecodesUptoRow : OpenClaim := { program := "ytkgacehnpdijaaa", sum := "e75c725ce07ece34bfa057621128db11ba738fb74e766d5e1315957ccd230365", func := "confluence/confluencelaw04.WireDecodes", spec := "wireDecodes", unfollowed := true, recurses := true, apart := false, narrowed := true }
def WireDecodesUptoSaid : Prop := wireDecodesUptoRow.holds Try.pinned (OpenSpec.upto wireDecodesSpec)

/-- 'confluencelaw04.WireBack', WHERE WHAT IT READS IS OF BULK AT MOST 1048576: true; the input reads as it did. -/
def wireBackUptoRow : OpenClaim := { program := "ytkgacehnpdijaaa", sum := "e75c725ce07ece34bfa057621128db11ba738fb74e766d5e1315957ccd230365", func := "confluence/confluencelaw04.WireBack", spec := "wireBack", unfollowed := true, recurses := true, apart := false, narrowed := true }
def WireBackUptoSaid : Prop := wireBackUptoRow.holds Try.pinned (OpenSpec.upto wireBackSpec)

/-- 'confluencelaw04.WireOnly', WHERE WHAT IT READS IS OF BULK AT MOST 1048576: true; the input reads as it did. -/
def wireOnlyUptoRow : OpenClaim := { program := "ytkgacehnpdijaaa", sum := "e75c725ce07ece34bfa057621128db11ba738fb74e766d5e1315957ccd230365", func := "confluence/confluencelaw04.WireOnly", spec := "wireOnly", unfollowed := true, recurses := true, apart := false, narrowed := true }
def WireOnlyUptoSaid : Prop := wireOnlyUptoRow.holds Try.pinned (OpenSpec.upto wireOnlySpec)

/-- 'confluencelaw04.WireSpoilt', WHERE WHAT IT READS IS OF BULK AT MOST 1048576: true; the input reads as it did. -/
def wireSpoiltUptoRow : OpenClaim := { program := "ytkgacehnpdijaaa", sum := "e75c725ce07ece34bfa057621128db11ba738fb74e766d5e1315957ccd230365", func := "confluence/confluencelaw04.WireSpoilt", spec := "wireSpoilt", unfollowed := true, recurses := true, apart := false, narrowed := true }
def WireSpoiltUptoSaid : Prop := wireSpoiltUptoRow.holds Try.pinned (OpenSpec.upto wireSpoiltSpec)

/-- 'confluencelaw04.WireOwns', WHERE WHAT IT READS IS OF BULK AT MOST 1048576: true; the input reads as it did. -/
def wireOwnsUptoRow : OpenClaim := { program := "ytkgacehnpdijaaa", sum := "e75c725ce07ece34bfa057621128db11ba738fb74e766d5e1315957ccd230365", func := "confluence/confluencelaw04.WireOwns", spec := "wireOwns", unfollowed := true, recurses := true, apart := false, narrowed := true }
def WireOwnsUptoSaid : Prop := wireOwnsUptoRow.holds Try.pinned (OpenSpec.upto wireOwnsSpec)

/-- 'confluencelaw04.WireTurns', WHERE WHAT IT READS IS OF BULK AT MOST 1048576: true; the input reads as it did. -/
def wireTurnsUptoRow : OpenClaim := { program := "ytkgacehnpdijaaa", sum := "e75c725ce07ece34bfa057621128db11ba738fb74e766d5e1315957ccd230365", func := "confluence/confluencelaw04.WireTurns", spec := "wireTurns", unfollowed := true, recurses := true, apart := false, narrowed := true }
def WireTurnsUptoSaid : Prop := wireTurnsUptoRow.holds Try.pinned (OpenSpec.upto wireTurnsSpec)

end Rows
end Go.Proofs.Ytkgacehnpdijaaa
