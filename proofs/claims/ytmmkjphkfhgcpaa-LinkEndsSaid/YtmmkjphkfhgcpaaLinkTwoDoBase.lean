/- One move between two ends of a link: the words. -/
import Derived.Test.YtmmkjphkfhgcpaaLinkTwoSame
import Derived.Deep.CutBlock
namespace Go.Proofs.Ytmmkjphkfhgcpaa
set_option linter.unusedVariables false
open Go.RowKit

theorem umodT (x m : Int) (h0 : 0 < m) (hm : m < 9223372036854775807) : ∃ N : Nat, wrap64 ((IntKind.u64.wrap x).tmod m) = N ∧ (N : Int) < m := by
  have h := wrap_u64_nonneg x
  have e : (IntKind.u64.wrap x).tmod m = IntKind.u64.wrap x % m := Int.tmod_eq_emod_of_nonneg h
  have h1 := Int.emod_nonneg (IntKind.u64.wrap x) (show m ≠ 0 by omega)
  have h2 := Int.emod_lt_of_pos (IntKind.u64.wrap x) h0
  refine ⟨(IntKind.u64.wrap x % m).toNat, ?_, by omega⟩
  rw [e]
  unfold wrap64
  omega
def wayC (x : Way) : Array Value := #[.int .i64 0, .int .i64 x.1, .int .i64 x.2.1, .int .i64 x.2.2.1, .slice x.2.2.2.1.2.1 x.2.2.2.1.1.length x.2.2.2.1.2.2, .bool x.2.2.2.2]
theorem wayAt {w : World} {g : Nat} {ty : TypeId} {x : Way} (h : Blk w g ty (wayC x)) :
    w.cell? ⟨g, 0, none⟩ = some (.int .i64 0) ∧ w.cell? ⟨g, 1, none⟩ = some (.int .i64 x.1) ∧ w.cell? ⟨g, 2, none⟩ = some (.int .i64 x.2.1) ∧ w.cell? ⟨g, 3, none⟩ = some (.int .i64 x.2.2.1) ∧ w.cell? ⟨g, 4, none⟩ = some (.slice x.2.2.2.1.2.1 x.2.2.2.1.1.length x.2.2.2.1.2.2) ∧ w.cell? ⟨g, 5, none⟩ = some (.bool x.2.2.2.2) :=
  ⟨h.cell 0, h.cell 1, h.cell 2, h.cell 3, h.cell 4, h.cell 5⟩
def DoneT (w0 : World) (pt pa pb : Nat) (ep : Int) (K n : Nat) (e : Ending) (w' : World) : Prop := e = .returned (.bool true) ∧ ∃ sa sb t, TwoSt w0 w' pt pa pb sa sb t ∧ TInv ep sa sb t K ∧ t.row.length ≤ n
def moveCells (kd i : Int) (A : Option Addr) (n c : Nat) : Array Value := #[.int .i64 kd, .int .i64 i, .slice A n c]
theorem moveAt {w : World} {g : Nat} {t : TypeId} {kd i : Int} {A : Option Addr} {n c : Nat} (h : Blk w g t (moveCells kd i A n c)) :
    w.cell? ⟨g, 0, none⟩ = some (.int .i64 kd) ∧ w.cell? ⟨g, 1, none⟩ = some (.int .i64 i) ∧ w.cell? ⟨g, 2, none⟩ = some (.slice A n c) := ⟨h.cell 0, h.cell 1, h.cell 2⟩

end Go.Proofs.Ytmmkjphkfhgcpaa
