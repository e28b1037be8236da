/-
  No cell of these rows narrows 'for every input' (looked for: loops, veiled, ifaces, maps, wideKeys, modest, calm, conditions, laid).
  DERIVED. THE GIVEN ROWS OF THIS SEAT. 8 by the template 'for every input the law returns true; each argument reads behind the call as it read before'; 0 by the template 'total and deterministic' (their statements: YtbiinlkdgankkaaTotals.lean).
  GIVEN WITH THE SEED: the statements are not yours to turn. If you find one false, say at which input.
  Laid BY PROGRAM, IN A SANDBOX (cutbox-rows.mjs): the forced cells as the released guide's own fill.sh prints them over the translation 8c388fa2b93b0df6… (all of the seat's roots in one cut). By AI agents, Wed Nov 11 2026. No macro, syntax, notation, axiom, sorry.
-/
import Derived.Test.YtbiinlkdgankkaaChecked
import GoSem.Claim
import GoSem.ClaimJoined
import GoSem.ClaimMapViews
import Derived.JoinedTies
import Derived.KernelRfl
namespace Go.Proofs.Ytbiinlkdgankkaa
/- THE CELL 'sum', in the pinned program and in every row, IS THE sha256 OF THE DUMP (.gsa) THAT YtbiinlkdgankkaaProg.lean LOADS. Nothing in Lean hashes anything: it is a label: what it is worth is what the hold of that sum in a sandbox is worth. -/
noncomputable def Try.pinned : Pinned := { name := "ytbiinlkdgankkaa", sum := "8c388fa2b93b0df6ff71ff9832767319afade0c3e0585aba196f2a942ecabb99", checked := Try.checked }
namespace Rows
def none {H : Type} : Left H := { results := [], args := [] }

/-- 'confluencelaw03.NumUvars': WHATEVER THE INPUT: true; the input reads as it did. -/
def numUvarsSpec : ChangeSpec := { name := "numUvars", fn := fun _ => fun
  | [d1, d2] => { results := [.lit (.bool true)], args := [d1, d2] }
  | _ => none }
def numUvarsRow : OpenClaim := { program := "ytbiinlkdgankkaa", sum := "8c388fa2b93b0df6ff71ff9832767319afade0c3e0585aba196f2a942ecabb99", func := "confluence/confluencelaw03.NumUvars", spec := "numUvars", recurses := true, apart := false }
def NumUvarsSaid : Prop := numUvarsRow.holds Try.pinned (OpenSpec.ofChange numUvarsSpec)

/-- ITS FALSE NEIGHBOUR: 'it returns false'. Refute it at one input. -/
def numUvarsWrong : ChangeSpec := { name := "numUvars", fn := fun _ => fun
  | [d1, d2] => { results := [.lit (.bool false)], args := [d1, d2] }
  | _ => none }
def NumUvarsWrongFalsely : Prop := numUvarsRow.holds Try.pinned (OpenSpec.ofChange numUvarsWrong)

/-- 'confluencelaw03.NumOne': WHATEVER THE INPUT: true; the input reads as it did. -/
def numOneSpec : ChangeSpec := { name := "numOne", fn := fun _ => fun
  | [d] => { results := [.lit (.bool true)], args := [d] }
  | _ => none }
def numOneRow : OpenClaim := { program := "ytbiinlkdgankkaa", sum := "8c388fa2b93b0df6ff71ff9832767319afade0c3e0585aba196f2a942ecabb99", func := "confluence/confluencelaw03.NumOne", spec := "numOne", apart := false }
def NumOneSaid : Prop := numOneRow.holds Try.pinned (OpenSpec.ofChange numOneSpec)

/-- ITS FALSE NEIGHBOUR: 'it returns false'. Refute it at one input. -/
def numOneWrong : ChangeSpec := { name := "numOne", fn := fun _ => fun
  | [d] => { results := [.lit (.bool false)], args := [d] }
  | _ => none }
def NumOneWrongFalsely : Prop := numOneRow.holds Try.pinned (OpenSpec.ofChange numOneWrong)

/-- 'confluencelaw03.NumRows': WHATEVER THE INPUT: true; the input reads as it did. -/
def numRowsSpec : ChangeSpec := { name := "numRows", fn := fun _ => fun
  | [d1, d2] => { results := [.lit (.bool true)], args := [d1, d2] }
  | _ => none }
def numRowsRow : OpenClaim := { program := "ytbiinlkdgankkaa", sum := "8c388fa2b93b0df6ff71ff9832767319afade0c3e0585aba196f2a942ecabb99", func := "confluence/confluencelaw03.NumRows", spec := "numRows", unfollowed := true, recurses := true, apart := false }
def NumRowsSaid : Prop := numRowsRow.holds Try.pinned (OpenSpec.ofChange numRowsSpec)

/-- ITS FALSE NEIGHBOUR: 'it returns false'. Refute it at one input. -/
def numRowsWrong : ChangeSpec := { name := "numRows", fn := fun _ => fun
  | [d1, d2] => { results := [.lit (.bool false)], args := [d1, d2] }
  | _ => none }
def NumRowsWrongFalsely : Prop := numRowsRow.holds Try.pinned (OpenSpec.ofChange numRowsWrong)

/-- 'confluencelaw03.NumLeaves': WHATEVER THE INPUT: true; the input reads as it did. -/
def numLeavesSpec : ChangeSpec := { name := "numLeaves", fn := fun _ => fun
  | [d1, d2] => { results := [.lit (.bool true)], args := [d1, d2] }
  | _ => none }
def numLeavesRow : OpenClaim := { program := "ytbiinlkdgankkaa", sum := "8c388fa2b93b0df6ff71ff9832767319afade0c3e0585aba196f2a942ecabb99", func := "confluence/confluencelaw03.NumLeaves", spec := "numLeaves", unfollowed := true, recurses := true, apart := false }
def NumLeavesSaid : Prop := numLeavesRow.holds Try.pinned (OpenSpec.ofChange numLeavesSpec)

/-- ITS FALSE NEIGHBOUR: 'it returns false'. Refute it at one input. -/
def numLeavesWrong : ChangeSpec := { name := "numLeaves", fn := fun _ => fun
  | [d1, d2] => { results := [.lit (.bool false)], args := [d1, d2] }
  | _ => none }
def NumLeavesWrongFalsely : Prop := numLeavesRow.holds Try.pinned (OpenSpec.ofChange numLeavesWrong)

/-- 'confluencelaw03.NumTexts': WHATEVER THE INPUT: true; the input reads as it did. -/
def numTextsSpec : ChangeSpec := { name := "numTexts", fn := fun _ => fun
  | [d1, d2, d3] => { results := [.lit (.bool true)], args := [d1, d2, d3] }
  | _ => none }
def numTextsRow : OpenClaim := { program := "ytbiinlkdgankkaa", sum := "8c388fa2b93b0df6ff71ff9832767319afade0c3e0585aba196f2a942ecabb99", func := "confluence/confluencelaw03.NumTexts", spec := "numTexts", recurses := true, apart := false }
def NumTextsSaid : Prop := numTextsRow.holds Try.pinned (OpenSpec.ofChange numTextsSpec)

/-- ITS FALSE NEIGHBOUR: 'it returns false'. Refute it at one input. -/
def numTextsWrong : ChangeSpec := { name := "numTexts", fn := fun _ => fun
  | [d1, d2, d3] => { results := [.lit (.bool false)], args := [d1, d2, d3] }
  | _ => none }
def NumTextsWrongFalsely : Prop := numTextsRow.holds Try.pinned (OpenSpec.ofChange numTextsWrong)

/-- 'confluencelaw03.NumCuts': WHATEVER THE INPUT: true; the input reads as it did. -/
def numCutsSpec : ChangeSpec := { name := "numCuts", fn := fun _ => fun
  | [d1, d2, d3] => { results := [.lit (.bool true)], args := [d1, d2, d3] }
  | _ => none }
def numCutsRow : OpenClaim := { program := "ytbiinlkdgankkaa", sum := "8c388fa2b93b0df6ff71ff9832767319afade0c3e0585aba196f2a942ecabb99", func := "confluence/confluencelaw03.NumCuts", spec := "numCuts", apart := false }
def NumCutsSaid : Prop := numCutsRow.holds Try.pinned (OpenSpec.ofChange numCutsSpec)

/-- ITS FALSE NEIGHBOUR: 'it returns false'. Refute it at one input. -/
def numCutsWrong : ChangeSpec := { name := "numCuts", fn := fun _ => fun
  | [d1, d2, d3] => { results := [.lit (.bool false)], args := [d1, d2, d3] }
  | _ => none }
def NumCutsWrongFalsely : Prop := numCutsRow.holds Try.pinned (OpenSpec.ofChange numCutsWrong)

/-- 'confluencelaw03.NumFixed': WHATEVER THE INPUT: true; the input reads as it did. -/
def numFixedSpec : ChangeSpec := { name := "numFixed", fn := fun _ => fun
  | [d1, d2, d3] => { results := [.lit (.bool true)], args := [d1, d2, d3] }
  | _ => none }
def numFixedRow : OpenClaim := { program := "ytbiinlkdgankkaa", sum := "8c388fa2b93b0df6ff71ff9832767319afade0c3e0585aba196f2a942ecabb99", func := "confluence/confluencelaw03.NumFixed", spec := "numFixed", apart := false }
def NumFixedSaid : Prop := numFixedRow.holds Try.pinned (OpenSpec.ofChange numFixedSpec)

/-- ITS FALSE NEIGHBOUR: 'it returns false'. Refute it at one input. -/
def numFixedWrong : ChangeSpec := { name := "numFixed", fn := fun _ => fun
  | [d1, d2, d3] => { results := [.lit (.bool false)], args := [d1, d2, d3] }
  | _ => none }
def NumFixedWrongFalsely : Prop := numFixedRow.holds Try.pinned (OpenSpec.ofChange numFixedWrong)

/-- 'confluencelaw03.NumBack': WHATEVER THE INPUT: true; the input reads as it did. -/
def numBackSpec : ChangeSpec := { name := "numBack", fn := fun _ => fun
  | [d1, d2, d3, d4] => { results := [.lit (.bool true)], args := [d1, d2, d3, d4] }
  | _ => none }
def numBackRow : OpenClaim := { program := "ytbiinlkdgankkaa", sum := "8c388fa2b93b0df6ff71ff9832767319afade0c3e0585aba196f2a942ecabb99", func := "confluence/confluencelaw03.NumBack", spec := "numBack", apart := false }
def NumBackSaid : Prop := numBackRow.holds Try.pinned (OpenSpec.ofChange numBackSpec)

/-- ITS FALSE NEIGHBOUR: 'it returns false'. Refute it at one input. -/
def numBackWrong : ChangeSpec := { name := "numBack", fn := fun _ => fun
  | [d1, d2, d3, d4] => { results := [.lit (.bool false)], args := [d1, d2, d3, d4] }
  | _ => none }
def NumBackWrongFalsely : Prop := numBackRow.holds Try.pinned (OpenSpec.ofChange numBackWrong)

/- THE SECOND FORM. 'bulk': how many values and letters a reading holds, each counted each time it is reached (what is shared counts as often as it is met; a slice's spare places count too). A statement '..UptoSaid' is the law's where the arguments, and the package variables that the reading takes, are together of bulk at most 1048576: NARROWER than '..Said'. Prove '..Said' where nothing that the law and all that it calls make is longer than what came in: it says more and counts as full. Else prove '..UptoSaid'. A law counts once. -/
mutual
def uptoBulk {H : Type} : DataW H → Nat
  | .lit (.string bytes) => bytes.length + 1
  | .lit _ => 1
  | .nil => 1
  | .ptr d => uptoBulk d + 1
  | .slice elems spare => uptoBulkAll elems + uptoBulkAll spare + 1
  | .agg parts => uptoBulkAll parts + 1
  | .iface _ d => uptoBulk d + 1
  | .map entries => uptoBulkEntries entries + 1
  | .held _ => 1
def uptoBulkAll {H : Type} : List (DataW H) → Nat
  | [] => 0
  | d :: r => uptoBulk d + uptoBulkAll r
def uptoBulkEntries {H : Type} : List (Lit × DataW H) → Nat
  | [] => 0
  | x :: r => uptoBulkEntry x + uptoBulkEntries r
def uptoBulkEntry {H : Type} : Lit × DataW H → Nat
  | (.string bytes, d) => bytes.length + uptoBulk d + 1
  | (_, d) => uptoBulk d + 1
 end
def uptoSmall : (H : Type) → List (DataW H) → Bool := fun _ ds => decide (uptoBulkAll ds ≤ 1048576)
def OpenSpec.upto (s : _root_.Go.ChangeSpec) : _root_.Go.OpenSpec := { _root_.Go.OpenSpec.ofChange s with cond := some uptoSmall }

/-- 'confluencelaw03.NumUvars', WHERE WHAT IT READS IS OF BULK AT MOST 1048576: true; the input reads as it did. -/
def numUvarsUptoRow : OpenClaim := { program := "ytbiinlkdgankkaa", sum := "8c388fa2b93b0df6ff71ff9832767319afade0c3e0585aba196f2a942ecabb99", func := "confluence/confluencelaw03.NumUvars", spec := "numUvars", recurses := true, apart := false, narrowed := true }
def NumUvarsUptoSaid : Prop := numUvarsUptoRow.holds Try.pinned (OpenSpec.upto numUvarsSpec)

/-- 'confluencelaw03.NumOne', WHERE WHAT IT READS IS OF BULK AT MOST 1048576: true; the input reads as it did. -/
def numOneUptoRow : OpenClaim := { program := "ytbiinlkdgankkaa", sum := "8c388fa2b93b0df6ff71ff9832767319afade0c3e0585aba196f2a942ecabb99", func := "confluence/confluencelaw03.NumOne", spec := "numOne", apart := false, narrowed := true }
def NumOneUptoSaid : Prop := numOneUptoRow.holds Try.pinned (OpenSpec.upto numOneSpec)

/-- 'confluencelaw03.NumRows', WHERE WHAT IT READS IS OF BULK AT MOST 1048576: true; the input reads as it did. -/
def numRowsUptoRow : OpenClaim := { program := "ytbiinlkdgankkaa", sum := "8c388fa2b93b0df6ff71ff9832767319afade0c3e0585aba196f2a942ecabb99", func := "confluence/confluencelaw03.NumRows", spec := "numRows", unfollowed := true, recurses := true, apart := false, narrowed := true }
def NumRowsUptoSaid : Prop := numRowsUptoRow.holds Try.pinned (OpenSpec.upto numRowsSpec)

/-- 'confluencelaw03.NumLeaves', WHERE WHAT IT READS IS OF BULK AT MOST 1048576: true; the input reads as it did. -/
def numLeavesUptoRow : OpenClaim := { program := "ytbiinlkdgankkaa", sum := "8c388fa2b93b0df6ff71ff9832767319afade0c3e0585aba196f2a942ecabb99", func := "confluence/confluencelaw03.NumLeaves", spec := "numLeaves", unfollowed := true, recurses := true, apart := false, narrowed := true }
def NumLeavesUptoSaid : Prop := numLeavesUptoRow.holds Try.pinned (OpenSpec.upto numLeavesSpec)

/-- 'confluencelaw03.NumTexts', WHERE WHAT IT READS IS OF BULK AT MOST 1048576: true; the input reads as it did. -/
def numTextsUptoRow : OpenClaim := { program := "ytbiinlkdgankkaa", sum := "8c388fa2b93b0df6ff71ff9832767319afade0c3e0585aba196f2a942ecabb99", func := "confluence/confluencelaw03.NumTexts", spec := "numTexts", recurses := true, apart := false, narrowed := true }
def NumTextsUptoSaid : Prop := numTextsUptoRow.holds Try.pinned (OpenSpec.upto numTextsSpec)

/-- 'confluencelaw03.NumCuts', WHERE WHAT IT READS IS OF BULK AT MOST 1048576: true; the input reads as it did. -/
def numCutsUptoRow : OpenClaim := { program := "ytbiinlkdgankkaa", sum := "8c388fa2b93b0df6ff71ff9832767319afade0c3e0585aba196f2a942ecabb99", func := "confluence/confluencelaw03.NumCuts", spec := "numCuts", apart := false, narrowed := true }
def NumCutsUptoSaid : Prop := numCutsUptoRow.holds Try.pinned (OpenSpec.upto numCutsSpec)

/-- 'confluencelaw03.NumFixed', WHERE WHAT IT READS IS OF BULK AT MOST 1048576: true; the input reads as it did. -/
def numFixedUptoRow : OpenClaim := { program := "ytbiinlkdgankkaa", sum := "8c388fa2b93b0df6ff71ff9832767319afade0c3e0585aba196f2a942ecabb99", func := "confluence/confluencelaw03.NumFixed", spec := "numFixed", apart := false, narrowed := true }
def NumFixedUptoSaid : Prop := numFixedUptoRow.holds Try.pinned (OpenSpec.upto numFixedSpec)

/-- 'confluencelaw03.NumBack', WHERE WHAT IT READS IS OF BULK AT MOST 1048576: true; the input reads as it did. -/
def numBackUptoRow : OpenClaim := { program := "ytbiinlkdgankkaa", sum := "8c388fa2b93b0df6ff71ff9832767319afade0c3e0585aba196f2a942ecabb99", func := "confluence/confluencelaw03.NumBack", spec := "numBack", apart := false, narrowed := true }
def NumBackUptoSaid : Prop := numBackUptoRow.holds Try.pinned (OpenSpec.upto numBackSpec)

end Rows
end Go.Proofs.Ytbiinlkdgankkaa
