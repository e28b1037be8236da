/- Behind any beginning, if all that is out comes, again and again, all that was sent comes, and nothing waits; no condition. -/
import Derived.Test.YtmmkjphkfhgcpaaFrame
import Derived.Test.YtmmkjphkfhgcpaaLinkLawH
namespace Go.Proofs.Ytmmkjphkfhgcpaa.linkEnds
open Go.ChangeShapes Go.WideShapes Go.ChangeAt Go.RowKit
set_option linter.unusedVariables false

theorem isLaw : IsLaw Try.f5 Rows.linkEndsSpec 4 where
  vars := rfl
  fn_ := fun H ds h => by
    match ds, h with
    | [d1, d2], _ => exact ⟨rfl, rfl, rfl⟩
  res := rfl
  bool_ := Try.underlying4
  read := by
    intro t ht
    have h : t ∈ [3, 37] := ht
    simp at h
    rcases h with rfl | rfl <;> exact ⟨by kernel_rfl, of_decide_eq_true (by kernel_rfl)⟩

theorem contract {H : Type} {enc : TypeId × Value → H} (W : World) (args : Array Value) (hn : args.size = Try.f5.params.size)
    (ha : ∀ (j : Nat) (t : TypeId) (v : Value), Try.f5.params[j]? = some t → args[j]? = some v → Came enc Try.prog W (fun _ => True) t v) :
    Calls Try.prog 5 args W fun e W' => e = .returned (.bool true) ∧ Below W.heap.size W W' := by
  match args, hn with
  | ⟨[v0, v1]⟩, _ =>
    obtain ⟨n0, rfl, lo0, hi0⟩ := (ha 0 3 _ rfl rfl).i64 Try.underlying3
    have h1 := ha 1 37 _ rfl rfl
    exact (by
      obtain ⟨A1, c1, r1, rfl, g1, g2, g3⟩ := h1.moves
      exact linkEnds_any _ A1 c1 r1 W g3 g1 g2)

set_option maxRecDepth 100000 in
theorem holds : Rows.LinkEndsSaid :=
  OpenClaim.holds_of_wide 5 Try.f5 rfl rfl rfl rfl rfl rfl rfl ⟨rfl, rfl, rfl, rfl, rfl⟩ rfl rfl rfl rfl rfl (by kernel_rfl) Try.func5 (by kernel_rfl)
    (of_decide_eq_true (by kernel_rfl)) (by unfold Func.isWrapper; first | (rw [if_pos (by decide +kernel)]; kernel_rfl) | (rw [if_neg (by decide +kernel)]; exact ⟨rfl, rfl⟩))
    (fun os started H enc _ => law_lifted isLaw Try.func5 (by kernel_rfl) started
      (ChangeSpec.witness6 (enc := enc) (C := Try.checked) false ⟨#[], #[.int .i64 0, .slice none 0 0], []⟩ 8 (by kernel_rfl) (by kernel_rfl) (by kernel_rfl) (by kernel_rfl)) contract)
#print axioms holds
end Go.Proofs.Ytmmkjphkfhgcpaa.linkEnds
