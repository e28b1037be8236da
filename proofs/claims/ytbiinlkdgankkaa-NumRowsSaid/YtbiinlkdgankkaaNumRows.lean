/- Short numbers that stand one behind the other are gone through, each at its place, up to the first that is none; for every row and every tail. -/
import Derived.Test.YtbiinlkdgankkaaFrame
import Derived.Test.YtbiinlkdgankkaaNumLawF
namespace Go.Proofs.Ytbiinlkdgankkaa.numRows
open Go.ChangeShapes Go.WideShapes Go.ChangeAt Go.RowKit
set_option linter.unusedVariables false

theorem isLaw : IsLaw Try.f5 Rows.numRowsSpec 4 where
  vars := rfl
  fn_ := fun H ds h => by
    match ds, h with
    | [d1, d2], _ => exact ⟨rfl, rfl, rfl⟩
  res := rfl
  bool_ := Try.underlying4
  read := by
    intro t ht
    have h : t ∈ [32, 23] := ht
    simp at h
    rcases h with rfl | rfl <;> exact ⟨by kernel_rfl, of_decide_eq_true (by kernel_rfl)⟩

theorem contract {H : Type} {enc : TypeId × Value → H} (W : World) (args : Array Value) (hn : args.size = Try.f5.params.size)
    (ha : ∀ (j : Nat) (t : TypeId) (v : Value), Try.f5.params[j]? = some t → args[j]? = some v → Came enc Try.prog W (fun _ => True) t v) :
    Calls Try.prog 5 args W fun e W' => e = .returned (.bool true) ∧ Below W.heap.size W W' := by
  match args, hn with
  | ⟨[v0, v1]⟩, _ =>
    have h0 := ha 0 32 _ rfl rfl
    obtain ⟨A1, l1, c1, rfl, h1a, h1b, h1c⟩ := (ha 1 23 _ rfl rfl).bytes Try.underlying23 Try.underlying5 (by kernel_rfl) (by kernel_rfl)
    exact (by
      obtain ⟨A0, l0, c0, rfl, g1, g2, g3, g4, _⟩ := h0.u64s Try.underlying32 Try.underlying22 (by kernel_rfl)
      have e8 : Try.prog.bytesOf 22 = 8 := by kernel_rfl
      rw [e8] at g2
      exact numRows_any l0 g3 A0 c0 g1 (by omega) l1 A1 c1 h1a h1b W g4 h1c)

set_option maxRecDepth 100000 in
theorem holds : Rows.NumRowsSaid :=
  OpenClaim.holds_of_wide 5 Try.f5 rfl rfl rfl rfl rfl rfl rfl ⟨rfl, rfl, rfl, rfl, rfl⟩ rfl rfl rfl rfl rfl (by kernel_rfl) Try.func5 (by kernel_rfl)
    (of_decide_eq_true (by kernel_rfl)) (by unfold Func.isWrapper; first | (rw [if_pos (by decide +kernel)]; kernel_rfl) | (rw [if_neg (by decide +kernel)]; exact ⟨rfl, rfl⟩))
    (fun os started H enc _ => law_lifted isLaw Try.func5 (by kernel_rfl) started
      (ChangeSpec.witness6 (enc := enc) (C := Try.checked) false ⟨#[], #[.slice none 0 0, .slice none 0 0], []⟩ 8 (by kernel_rfl) (by kernel_rfl) (by kernel_rfl) (by kernel_rfl)) contract)
#print axioms holds
end Go.Proofs.Ytbiinlkdgankkaa.numRows
