/-
  No cell of these rows narrows 'for every input' (looked for: loops, veiled, ifaces, maps, wideKeys, modest, calm, conditions, laid).
  DERIVED. THE GIVEN ROWS OF THIS SEAT. 5 by the template 'for every input the law returns true; each argument reads behind the call as it read before'; 0 by the template 'total and deterministic' (their statements: YtbclfiollfagmaaTotals.lean).
  GIVEN WITH THE SEED: the statements are not yours to turn. If you find one false, say at which input.
  Laid BY PROGRAM, IN A SANDBOX (cutbox-rows.mjs): the forced cells as the released guide's own fill.sh prints them over the translation fd3c64cbf8f7d49f… (all of the seat's roots in one cut). By AI agents, Wed Nov 11 2026. No macro, syntax, notation, axiom, sorry.
-/
import Derived.Test.YtbclfiollfagmaaChecked
import GoSem.Claim
import GoSem.ClaimJoined
import GoSem.ClaimMapViews
import Derived.JoinedTies
import Derived.KernelRfl
namespace Go.Proofs.Ytbclfiollfagmaa
/- THE CELL 'sum', in the pinned program and in every row, IS THE sha256 OF THE DUMP (.gsa) THAT YtbclfiollfagmaaProg.lean LOADS. Nothing in Lean hashes anything: it is a label: what it is worth is what the hold of that sum in a sandbox is worth. -/
noncomputable def Try.pinned : Pinned := { name := "ytbclfiollfagmaa", sum := "fd3c64cbf8f7d49fa9f8b5effb7e30beb25f4937ef1cc76379f30332878f19b2", checked := Try.checked }
namespace Rows
def none {H : Type} : Left H := { results := [], args := [] }

/-- 'confluencelaw07.NetFull': WHATEVER THE INPUT: true; the input reads as it did. -/
def netFullSpec : ChangeSpec := { name := "netFull", fn := fun _ => fun
  | [d1, d2, d3] => { results := [.lit (.bool true)], args := [d1, d2, d3] }
  | _ => none }
def netFullRow : OpenClaim := { program := "ytbclfiollfagmaa", sum := "fd3c64cbf8f7d49fa9f8b5effb7e30beb25f4937ef1cc76379f30332878f19b2", func := "confluence/confluencelaw07.NetFull", spec := "netFull", apart := false }
def NetFullSaid : Prop := netFullRow.holds Try.pinned (OpenSpec.ofChange netFullSpec)

/-- ITS FALSE NEIGHBOUR: 'it returns false'. Refute it at one input. -/
def netFullWrong : ChangeSpec := { name := "netFull", fn := fun _ => fun
  | [d1, d2, d3] => { results := [.lit (.bool false)], args := [d1, d2, d3] }
  | _ => none }
def NetFullWrongFalsely : Prop := netFullRow.holds Try.pinned (OpenSpec.ofChange netFullWrong)

/-- 'confluencelaw07.NetOwns': WHATEVER THE INPUT: true; the input reads as it did. -/
def netOwnsSpec : ChangeSpec := { name := "netOwns", fn := fun _ => fun
  | [d1, d2, d3] => { results := [.lit (.bool true)], args := [d1, d2, d3] }
  | _ => none }
def netOwnsRow : OpenClaim := { program := "ytbclfiollfagmaa", sum := "fd3c64cbf8f7d49fa9f8b5effb7e30beb25f4937ef1cc76379f30332878f19b2", func := "confluence/confluencelaw07.NetOwns", spec := "netOwns", apart := false }
def NetOwnsSaid : Prop := netOwnsRow.holds Try.pinned (OpenSpec.ofChange netOwnsSpec)

/-- ITS FALSE NEIGHBOUR: 'it returns false'. Refute it at one input. -/
def netOwnsWrong : ChangeSpec := { name := "netOwns", fn := fun _ => fun
  | [d1, d2, d3] => { results := [.lit (.bool false)], args := [d1, d2, d3] }
  | _ => none }
def NetOwnsWrongFalsely : Prop := netOwnsRow.holds Try.pinned (OpenSpec.ofChange netOwnsWrong)

/-- 'confluencelaw07.NetApart': WHATEVER THE INPUT: true; the input reads as it did. -/
def netApartSpec : ChangeSpec := { name := "netApart", fn := fun _ => fun
  | [d1, d2, d3] => { results := [.lit (.bool true)], args := [d1, d2, d3] }
  | _ => none }
def netApartRow : OpenClaim := { program := "ytbclfiollfagmaa", sum := "fd3c64cbf8f7d49fa9f8b5effb7e30beb25f4937ef1cc76379f30332878f19b2", func := "confluence/confluencelaw07.NetApart", spec := "netApart", apart := false }
def NetApartSaid : Prop := netApartRow.holds Try.pinned (OpenSpec.ofChange netApartSpec)

/-- ITS FALSE NEIGHBOUR: 'it returns false'. Refute it at one input. -/
def netApartWrong : ChangeSpec := { name := "netApart", fn := fun _ => fun
  | [d1, d2, d3] => { results := [.lit (.bool false)], args := [d1, d2, d3] }
  | _ => none }
def NetApartWrongFalsely : Prop := netApartRow.holds Try.pinned (OpenSpec.ofChange netApartWrong)

/-- 'confluencelaw07.NetPlays': WHATEVER THE INPUT: true; the input reads as it did. -/
def netPlaysSpec : ChangeSpec := { name := "netPlays", fn := fun _ => fun
  | [d] => { results := [.lit (.bool true)], args := [d] }
  | _ => none }
def netPlaysRow : OpenClaim := { program := "ytbclfiollfagmaa", sum := "fd3c64cbf8f7d49fa9f8b5effb7e30beb25f4937ef1cc76379f30332878f19b2", func := "confluence/confluencelaw07.NetPlays", spec := "netPlays", unfollowed := true, recurses := true, apart := false }
def NetPlaysSaid : Prop := netPlaysRow.holds Try.pinned (OpenSpec.ofChange netPlaysSpec)

/-- ITS FALSE NEIGHBOUR: 'it returns false'. Refute it at one input. -/
def netPlaysWrong : ChangeSpec := { name := "netPlays", fn := fun _ => fun
  | [d] => { results := [.lit (.bool false)], args := [d] }
  | _ => none }
def NetPlaysWrongFalsely : Prop := netPlaysRow.holds Try.pinned (OpenSpec.ofChange netPlaysWrong)

/-- 'confluencelaw07.NetNone': WHATEVER THE INPUT: true; the input reads as it did. -/
def netNoneSpec : ChangeSpec := { name := "netNone", fn := fun _ => fun
  | [d] => { results := [.lit (.bool true)], args := [d] }
  | _ => none }
def netNoneRow : OpenClaim := { program := "ytbclfiollfagmaa", sum := "fd3c64cbf8f7d49fa9f8b5effb7e30beb25f4937ef1cc76379f30332878f19b2", func := "confluence/confluencelaw07.NetNone", spec := "netNone", unfollowed := true, recurses := true, apart := false }
def NetNoneSaid : Prop := netNoneRow.holds Try.pinned (OpenSpec.ofChange netNoneSpec)

/-- ITS FALSE NEIGHBOUR: 'it returns false'. Refute it at one input. -/
def netNoneWrong : ChangeSpec := { name := "netNone", fn := fun _ => fun
  | [d] => { results := [.lit (.bool false)], args := [d] }
  | _ => none }
def NetNoneWrongFalsely : Prop := netNoneRow.holds Try.pinned (OpenSpec.ofChange netNoneWrong)

/- THE SECOND FORM. 'bulk': how many values and letters a reading holds, each counted each time it is reached (what is shared counts as often as it is met; a slice's spare places count too). A statement '..UptoSaid' is the law's where the arguments, and the package variables that the reading takes, are together of bulk at most 1048576: NARROWER than '..Said'. Prove '..Said' where nothing that the law and all that it calls make is longer than what came in: it says more and counts as full. Else prove '..UptoSaid'. A law counts once. -/
mutual
def uptoBulk {H : Type} : DataW H → Nat
  | .lit (.string bytes) => bytes.length + 1
  | .lit _ => 1
  | .nil => 1
  | .ptr d => uptoBulk d + 1
  | .slice elems spare => uptoBulkAll elems + uptoBulkAll spare + 1
  | .agg parts => uptoBulkAll parts + 1
  | .iface _ d => uptoBulk d + 1
  | .map entries => uptoBulkEntries entries + 1
  | .held _ => 1
def uptoBulkAll {H : Type} : List (DataW H) → Nat
  | [] => 0
  | d :: r => uptoBulk d + uptoBulkAll r
def uptoBulkEntries {H : Type} : List (Lit × DataW H) → Nat
  | [] => 0
  | x :: r => uptoBulkEntry x + uptoBulkEntries r
def uptoBulkEntry {H : Type} : Lit × DataW H → Nat
  | (.string bytes, d) => bytes.length + uptoBulk d + 1
  | (_, d) => uptoBulk d + 1
 end
def uptoSmall : (H : Type) → List (DataW H) → Bool := fun _ ds => decide (uptoBulkAll ds ≤ 1048576)
def OpenSpec.upto (s : _root_.Go.ChangeSpec) : _root_.Go.OpenSpec := { _root_.Go.OpenSpec.ofChange s with cond := some uptoSmall }

/-- 'confluencelaw07.NetFull', WHERE WHAT IT READS IS OF BULK AT MOST 1048576: true; the input reads as it did. -/
def netFullUptoRow : OpenClaim := { program := "ytbclfiollfagmaa", sum := "fd3c64cbf8f7d49fa9f8b5effb7e30beb25f4937ef1cc76379f30332878f19b2", func := "confluence/confluencelaw07.NetFull", spec := "netFull", apart := false, narrowed := true }
def NetFullUptoSaid : Prop := netFullUptoRow.holds Try.pinned (OpenSpec.upto netFullSpec)

/-- 'confluencelaw07.NetOwns', WHERE WHAT IT READS IS OF BULK AT MOST 1048576: true; the input reads as it did. -/
def netOwnsUptoRow : OpenClaim := { program := "ytbclfiollfagmaa", sum := "fd3c64cbf8f7d49fa9f8b5effb7e30beb25f4937ef1cc76379f30332878f19b2", func := "confluence/confluencelaw07.NetOwns", spec := "netOwns", apart := false, narrowed := true }
def NetOwnsUptoSaid : Prop := netOwnsUptoRow.holds Try.pinned (OpenSpec.upto netOwnsSpec)

/-- 'confluencelaw07.NetApart', WHERE WHAT IT READS IS OF BULK AT MOST 1048576: true; the input reads as it did. -/
def netApartUptoRow : OpenClaim := { program := "ytbclfiollfagmaa", sum := "fd3c64cbf8f7d49fa9f8b5effb7e30beb25f4937ef1cc76379f30332878f19b2", func := "confluence/confluencelaw07.NetApart", spec := "netApart", apart := false, narrowed := true }
def NetApartUptoSaid : Prop := netApartUptoRow.holds Try.pinned (OpenSpec.upto netApartSpec)

/-- 'confluencelaw07.NetPlays', WHERE WHAT IT READS IS OF BULK AT MOST 1048576: true; the input reads as it did. -/
def netPlaysUptoRow : OpenClaim := { program := "ytbclfiollfagmaa", sum := "fd3c64cbf8f7d49fa9f8b5effb7e30beb25f4937ef1cc76379f30332878f19b2", func := "confluence/confluencelaw07.NetPlays", spec := "netPlays", unfollowed := true, recurses := true, apart := false, narrowed := true }
def NetPlaysUptoSaid : Prop := netPlaysUptoRow.holds Try.pinned (OpenSpec.upto netPlaysSpec)

/-- 'confluencelaw07.NetNone', WHERE WHAT IT READS IS OF BULK AT MOST 1048576: true; the input reads as it did. -/
def netNoneUptoRow : OpenClaim := { program := "ytbclfiollfagmaa", sum := "fd3c64cbf8f7d49fa9f8b5effb7e30beb25f4937ef1cc76379f30332878f19b2", func := "confluence/confluencelaw07.NetNone", spec := "netNone", unfollowed := true, recurses := true, apart := false, narrowed := true }
def NetNoneUptoSaid : Prop := netNoneUptoRow.holds Try.pinned (OpenSpec.upto netNoneSpec)

end Rows
end Go.Proofs.Ytbclfiollfagmaa
