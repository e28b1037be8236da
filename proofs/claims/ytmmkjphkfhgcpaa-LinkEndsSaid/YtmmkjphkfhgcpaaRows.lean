/-
  No cell of these rows narrows 'for every input' (looked for: loops, veiled, ifaces, maps, wideKeys, modest, calm, conditions, laid).
  DERIVED. THE GIVEN ROWS OF THIS SEAT. 7 by the template 'for every input the law returns true; each argument reads behind the call as it read before'; 0 by the template 'total and deterministic' (their statements: YtmmkjphkfhgcpaaTotals.lean).
  GIVEN WITH THE SEED: the statements are not yours to turn. If you find one false, say at which input.
  Laid BY PROGRAM, IN A SANDBOX (cutbox-rows.mjs): the forced cells as the released guide's own fill.sh prints them over the translation 2953fa46fe5ce29a… (all of the seat's roots in one cut). By AI agents, Wed Nov 11 2026. No macro, syntax, notation, axiom, sorry.
-/
import Derived.Test.YtmmkjphkfhgcpaaChecked
import GoSem.Claim
import GoSem.ClaimJoined
import GoSem.ClaimMapViews
import Derived.JoinedTies
import Derived.KernelRfl
namespace Go.Proofs.Ytmmkjphkfhgcpaa
/- THE CELL 'sum', in the pinned program and in every row, IS THE sha256 OF THE DUMP (.gsa) THAT YtmmkjphkfhgcpaaProg.lean LOADS. Nothing in Lean hashes anything: it is a label: what it is worth is what the hold of that sum in a sandbox is worth. -/
noncomputable def Try.pinned : Pinned := { name := "ytmmkjphkfhgcpaa", sum := "2953fa46fe5ce29ab890010a0a9cb098dbc3118a53830a022c43c0eefc732682", checked := Try.checked }
namespace Rows
def none {H : Type} : Left H := { results := [], args := [] }

/-- 'confluencelaw06.LinkOwns': WHATEVER THE INPUT: true; the input reads as it did. -/
def linkOwnsSpec : ChangeSpec := { name := "linkOwns", fn := fun _ => fun
  | [d1, d2] => { results := [.lit (.bool true)], args := [d1, d2] }
  | _ => none }
def linkOwnsRow : OpenClaim := { program := "ytmmkjphkfhgcpaa", sum := "2953fa46fe5ce29ab890010a0a9cb098dbc3118a53830a022c43c0eefc732682", func := "confluence/confluencelaw06.LinkOwns", spec := "linkOwns", apart := false }
def LinkOwnsSaid : Prop := linkOwnsRow.holds Try.pinned (OpenSpec.ofChange linkOwnsSpec)

/-- ITS FALSE NEIGHBOUR: 'it returns false'. Refute it at one input. -/
def linkOwnsWrong : ChangeSpec := { name := "linkOwns", fn := fun _ => fun
  | [d1, d2] => { results := [.lit (.bool false)], args := [d1, d2] }
  | _ => none }
def LinkOwnsWrongFalsely : Prop := linkOwnsRow.holds Try.pinned (OpenSpec.ofChange linkOwnsWrong)

/-- 'confluencelaw06.LinkOnce': WHATEVER THE INPUT: true; the input reads as it did. -/
def linkOnceSpec : ChangeSpec := { name := "linkOnce", fn := fun _ => fun
  | [d1, d2] => { results := [.lit (.bool true)], args := [d1, d2] }
  | _ => none }
def linkOnceRow : OpenClaim := { program := "ytmmkjphkfhgcpaa", sum := "2953fa46fe5ce29ab890010a0a9cb098dbc3118a53830a022c43c0eefc732682", func := "confluence/confluencelaw06.LinkOnce", spec := "linkOnce", apart := false }
def LinkOnceSaid : Prop := linkOnceRow.holds Try.pinned (OpenSpec.ofChange linkOnceSpec)

/-- ITS FALSE NEIGHBOUR: 'it returns false'. Refute it at one input. -/
def linkOnceWrong : ChangeSpec := { name := "linkOnce", fn := fun _ => fun
  | [d1, d2] => { results := [.lit (.bool false)], args := [d1, d2] }
  | _ => none }
def LinkOnceWrongFalsely : Prop := linkOnceRow.holds Try.pinned (OpenSpec.ofChange linkOnceWrong)

/-- 'confluencelaw06.LinkEnds': WHATEVER THE INPUT: true; the input reads as it did. -/
def linkEndsSpec : ChangeSpec := { name := "linkEnds", fn := fun _ => fun
  | [d1, d2] => { results := [.lit (.bool true)], args := [d1, d2] }
  | _ => none }
def linkEndsRow : OpenClaim := { program := "ytmmkjphkfhgcpaa", sum := "2953fa46fe5ce29ab890010a0a9cb098dbc3118a53830a022c43c0eefc732682", func := "confluence/confluencelaw06.LinkEnds", spec := "linkEnds", apart := false }
def LinkEndsSaid : Prop := linkEndsRow.holds Try.pinned (OpenSpec.ofChange linkEndsSpec)

/-- ITS FALSE NEIGHBOUR: 'it returns false'. Refute it at one input. -/
def linkEndsWrong : ChangeSpec := { name := "linkEnds", fn := fun _ => fun
  | [d1, d2] => { results := [.lit (.bool false)], args := [d1, d2] }
  | _ => none }
def LinkEndsWrongFalsely : Prop := linkEndsRow.holds Try.pinned (OpenSpec.ofChange linkEndsWrong)

/-- 'confluencelaw06.LinkAlien': WHATEVER THE INPUT: true; the input reads as it did. -/
def linkAlienSpec : ChangeSpec := { name := "linkAlien", fn := fun _ => fun
  | [d1, d2, d3] => { results := [.lit (.bool true)], args := [d1, d2, d3] }
  | _ => none }
def linkAlienRow : OpenClaim := { program := "ytmmkjphkfhgcpaa", sum := "2953fa46fe5ce29ab890010a0a9cb098dbc3118a53830a022c43c0eefc732682", func := "confluence/confluencelaw06.LinkAlien", spec := "linkAlien", apart := false }
def LinkAlienSaid : Prop := linkAlienRow.holds Try.pinned (OpenSpec.ofChange linkAlienSpec)

/-- ITS FALSE NEIGHBOUR: 'it returns false'. Refute it at one input. -/
def linkAlienWrong : ChangeSpec := { name := "linkAlien", fn := fun _ => fun
  | [d1, d2, d3] => { results := [.lit (.bool false)], args := [d1, d2, d3] }
  | _ => none }
def LinkAlienWrongFalsely : Prop := linkAlienRow.holds Try.pinned (OpenSpec.ofChange linkAlienWrong)

/-- 'confluencelaw06.LinkWindow': WHATEVER THE INPUT: true; the input reads as it did. -/
def linkWindowSpec : ChangeSpec := { name := "linkWindow", fn := fun _ => fun
  | [d1, d2, d3] => { results := [.lit (.bool true)], args := [d1, d2, d3] }
  | _ => none }
def linkWindowRow : OpenClaim := { program := "ytmmkjphkfhgcpaa", sum := "2953fa46fe5ce29ab890010a0a9cb098dbc3118a53830a022c43c0eefc732682", func := "confluence/confluencelaw06.LinkWindow", spec := "linkWindow", apart := false }
def LinkWindowSaid : Prop := linkWindowRow.holds Try.pinned (OpenSpec.ofChange linkWindowSpec)

/-- ITS FALSE NEIGHBOUR: 'it returns false'. Refute it at one input. -/
def linkWindowWrong : ChangeSpec := { name := "linkWindow", fn := fun _ => fun
  | [d1, d2, d3] => { results := [.lit (.bool false)], args := [d1, d2, d3] }
  | _ => none }
def LinkWindowWrongFalsely : Prop := linkWindowRow.holds Try.pinned (OpenSpec.ofChange linkWindowWrong)

/-- 'confluencelaw06.LinkPlays': WHATEVER THE INPUT: true; the input reads as it did. -/
def linkPlaysSpec : ChangeSpec := { name := "linkPlays", fn := fun _ => fun
  | [d1, d2] => { results := [.lit (.bool true)], args := [d1, d2] }
  | _ => none }
def linkPlaysRow : OpenClaim := { program := "ytmmkjphkfhgcpaa", sum := "2953fa46fe5ce29ab890010a0a9cb098dbc3118a53830a022c43c0eefc732682", func := "confluence/confluencelaw06.LinkPlays", spec := "linkPlays", apart := false }
def LinkPlaysSaid : Prop := linkPlaysRow.holds Try.pinned (OpenSpec.ofChange linkPlaysSpec)

/-- ITS FALSE NEIGHBOUR: 'it returns false'. Refute it at one input. -/
def linkPlaysWrong : ChangeSpec := { name := "linkPlays", fn := fun _ => fun
  | [d1, d2] => { results := [.lit (.bool false)], args := [d1, d2] }
  | _ => none }
def LinkPlaysWrongFalsely : Prop := linkPlaysRow.holds Try.pinned (OpenSpec.ofChange linkPlaysWrong)

/-- 'confluencelaw06.LinkNone': WHATEVER THE INPUT: true; the input reads as it did. -/
def linkNoneSpec : ChangeSpec := { name := "linkNone", fn := fun _ => fun
  | [d1, d2] => { results := [.lit (.bool true)], args := [d1, d2] }
  | _ => none }
def linkNoneRow : OpenClaim := { program := "ytmmkjphkfhgcpaa", sum := "2953fa46fe5ce29ab890010a0a9cb098dbc3118a53830a022c43c0eefc732682", func := "confluence/confluencelaw06.LinkNone", spec := "linkNone", apart := false }
def LinkNoneSaid : Prop := linkNoneRow.holds Try.pinned (OpenSpec.ofChange linkNoneSpec)

/-- ITS FALSE NEIGHBOUR: 'it returns false'. Refute it at one input. -/
def linkNoneWrong : ChangeSpec := { name := "linkNone", fn := fun _ => fun
  | [d1, d2] => { results := [.lit (.bool false)], args := [d1, d2] }
  | _ => none }
def LinkNoneWrongFalsely : Prop := linkNoneRow.holds Try.pinned (OpenSpec.ofChange linkNoneWrong)

/- THE SECOND FORM. 'bulk': how many values and letters a reading holds, each counted each time it is reached (what is shared counts as often as it is met; a slice's spare places count too). A statement '..UptoSaid' is the law's where the arguments, and the package variables that the reading takes, are together of bulk at most 1048576: NARROWER than '..Said'. Prove '..Said' where nothing that the law and all that it calls make is longer than what came in: it says more and counts as full. Else prove '..UptoSaid'. A law counts once. -/
mutual
def uptoBulk {H : Type} : DataW H → Nat
  | .lit (.string bytes) => bytes.length + 1
  | .lit _ => 1
  | .nil => 1
  | .ptr d => uptoBulk d + 1
  | .slice elems spare => uptoBulkAll elems + uptoBulkAll spare + 1
  | .agg parts => uptoBulkAll parts + 1
  | .iface _ d => uptoBulk d + 1
  | .map entries => uptoBulkEntries entries + 1
  | .held _ => 1
def uptoBulkAll {H : Type} : List (DataW H) → Nat
  | [] => 0
  | d :: r => uptoBulk d + uptoBulkAll r
def uptoBulkEntries {H : Type} : List (Lit × DataW H) → Nat
  | [] => 0
  | x :: r => uptoBulkEntry x + uptoBulkEntries r
def uptoBulkEntry {H : Type} : Lit × DataW H → Nat
  | (.string bytes, d) => bytes.length + uptoBulk d + 1
  | (_, d) => uptoBulk d + 1
 end
def uptoSmall : (H : Type) → List (DataW H) → Bool := fun _ ds => decide (uptoBulkAll ds ≤ 1048576)
def OpenSpec.upto (s : _root_.Go.ChangeSpec) : _root_.Go.OpenSpec := { _root_.Go.OpenSpec.ofChange s with cond := some uptoSmall }

/-- 'confluencelaw06.LinkOwns', WHERE WHAT IT READS IS OF BULK AT MOST 1048576: true; the input reads as it did. -/
def linkOwnsUptoRow : OpenClaim := { program := "ytmmkjphkfhgcpaa", sum := "2953fa46fe5ce29ab890010a0a9cb098dbc3118a53830a022c43c0eefc732682", func := "confluence/confluencelaw06.LinkOwns", spec := "linkOwns", apart := false, narrowed := true }
def LinkOwnsUptoSaid : Prop := linkOwnsUptoRow.holds Try.pinned (OpenSpec.upto linkOwnsSpec)

/-- 'confluencelaw06.LinkOnce', WHERE WHAT IT READS IS OF BULK AT MOST 1048576: true; the input reads as it did. -/
def linkOnceUptoRow : OpenClaim := { program := "ytmmkjphkfhgcpaa", sum := "2953fa46fe5ce29ab890010a0a9cb098dbc3118a53830a022c43c0eefc732682", func := "confluence/confluencelaw06.LinkOnce", spec := "linkOnce", apart := false, narrowed := true }
def LinkOnceUptoSaid : Prop := linkOnceUptoRow.holds Try.pinned (OpenSpec.upto linkOnceSpec)

/-- 'confluencelaw06.LinkEnds', WHERE WHAT IT READS IS OF BULK AT MOST 1048576: true; the input reads as it did. -/
def linkEndsUptoRow : OpenClaim := { program := "ytmmkjphkfhgcpaa", sum := "2953fa46fe5ce29ab890010a0a9cb098dbc3118a53830a022c43c0eefc732682", func := "confluence/confluencelaw06.LinkEnds", spec := "linkEnds", apart := false, narrowed := true }
def LinkEndsUptoSaid : Prop := linkEndsUptoRow.holds Try.pinned (OpenSpec.upto linkEndsSpec)

/-- 'confluencelaw06.LinkAlien', WHERE WHAT IT READS IS OF BULK AT MOST 1048576: true; the input reads as it did. -/
def linkAlienUptoRow : OpenClaim := { program := "ytmmkjphkfhgcpaa", sum := "2953fa46fe5ce29ab890010a0a9cb098dbc3118a53830a022c43c0eefc732682", func := "confluence/confluencelaw06.LinkAlien", spec := "linkAlien", apart := false, narrowed := true }
def LinkAlienUptoSaid : Prop := linkAlienUptoRow.holds Try.pinned (OpenSpec.upto linkAlienSpec)

/-- 'confluencelaw06.LinkWindow', WHERE WHAT IT READS IS OF BULK AT MOST 1048576: true; the input reads as it did. -/
def linkWindowUptoRow : OpenClaim := { program := "ytmmkjphkfhgcpaa", sum := "2953fa46fe5ce29ab890010a0a9cb098dbc3118a53830a022c43c0eefc732682", func := "confluence/confluencelaw06.LinkWindow", spec := "linkWindow", apart := false, narrowed := true }
def LinkWindowUptoSaid : Prop := linkWindowUptoRow.holds Try.pinned (OpenSpec.upto linkWindowSpec)

/-- 'confluencelaw06.LinkPlays', WHERE WHAT IT READS IS OF BULK AT MOST 1048576: true; the input reads as it did. -/
def linkPlaysUptoRow : OpenClaim := { program := "ytmmkjphkfhgcpaa", sum := "2953fa46fe5ce29ab890010a0a9cb098dbc3118a53830a022c43c0eefc732682", func := "confluence/confluencelaw06.LinkPlays", spec := "linkPlays", apart := false, narrowed := true }
def LinkPlaysUptoSaid : Prop := linkPlaysUptoRow.holds Try.pinned (OpenSpec.upto linkPlaysSpec)

/-- 'confluencelaw06.LinkNone', WHERE WHAT IT READS IS OF BULK AT MOST 1048576: true; the input reads as it did. -/
def linkNoneUptoRow : OpenClaim := { program := "ytmmkjphkfhgcpaa", sum := "2953fa46fe5ce29ab890010a0a9cb098dbc3118a53830a022c43c0eefc732682", func := "confluence/confluencelaw06.LinkNone", spec := "linkNone", apart := false, narrowed := true }
def LinkNoneUptoSaid : Prop := linkNoneUptoRow.holds Try.pinned (OpenSpec.upto linkNoneSpec)

end Rows
end Go.Proofs.Ytmmkjphkfhgcpaa
