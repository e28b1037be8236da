/- A row of numbers that is left early has told just so many; for every row and every number. -/
import Derived.Test.YtbiinlkdgankkaaFrame
import Derived.Test.YtbiinlkdgankkaaNumLawE
namespace Go.Proofs.Ytbiinlkdgankkaa.numLeaves
open Go.ChangeShapes Go.WideShapes Go.ChangeAt Go.RowKit
set_option linter.unusedVariables false

theorem isLaw : IsLaw Try.f6 Rows.numLeavesSpec 4 where
  vars := rfl
  fn_ := fun H ds h => by
    match ds, h with
    | [d1, d2], _ => exact ⟨rfl, rfl, rfl⟩
  res := rfl
  bool_ := Try.underlying4
  read := by
    intro t ht
    have h : t ∈ [32, 3] := ht
    simp at h
    rcases h with rfl | rfl <;> exact ⟨by kernel_rfl, of_decide_eq_true (by kernel_rfl)⟩

theorem contract {H : Type} {enc : TypeId × Value → H} (W : World) (args : Array Value) (hn : args.size = Try.f6.params.size)
    (ha : ∀ (j : Nat) (t : TypeId) (v : Value), Try.f6.params[j]? = some t → args[j]? = some v → Came enc Try.prog W (fun _ => True) t v) :
    Calls Try.prog 6 args W fun e W' => e = .returned (.bool true) ∧ Below W.heap.size W W' := by
  match args, hn with
  | ⟨[v0, v1]⟩, _ =>
    have h0 := ha 0 32 _ rfl rfl
    obtain ⟨n1, rfl, lo1, hi1⟩ := (ha 1 3 _ rfl rfl).i64 Try.underlying3
    exact (by
      obtain ⟨A0, l0, c0, rfl, g1, g2, g3, g4, _⟩ := h0.u64s Try.underlying32 Try.underlying22 (by kernel_rfl)
      have e8 : Try.prog.bytesOf 22 = 8 := by kernel_rfl
      rw [e8] at g2
      exact numLeaves_any l0 g3 A0 c0 g1 (by omega) n1 W g4)

set_option maxRecDepth 100000 in
theorem holds : Rows.NumLeavesSaid :=
  OpenClaim.holds_of_wide 6 Try.f6 rfl rfl rfl rfl rfl rfl rfl ⟨rfl, rfl, rfl, rfl, rfl⟩ rfl rfl rfl rfl rfl (by kernel_rfl) Try.func6 (by kernel_rfl)
    (of_decide_eq_true (by kernel_rfl)) (by unfold Func.isWrapper; first | (rw [if_pos (by decide +kernel)]; kernel_rfl) | (rw [if_neg (by decide +kernel)]; exact ⟨rfl, rfl⟩))
    (fun os started H enc _ => law_lifted isLaw Try.func6 (by kernel_rfl) started
      (ChangeSpec.witness6 (enc := enc) (C := Try.checked) false ⟨#[], #[.slice none 0 0, .int .i64 0], []⟩ 8 (by kernel_rfl) (by kernel_rfl) (by kernel_rfl) (by kernel_rfl)) contract)
#print axioms holds
end Go.Proofs.Ytbiinlkdgankkaa.numLeaves
