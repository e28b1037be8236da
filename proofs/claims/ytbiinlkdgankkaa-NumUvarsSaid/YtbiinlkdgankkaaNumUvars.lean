/- 'NumUvars' answers true at every number and every bytes, and writes nothing that came in. Without conditions. -/
import Derived.Test.YtbiinlkdgankkaaFrame
import Derived.Test.YtbiinlkdgankkaaNumLawA
namespace Go.Proofs.Ytbiinlkdgankkaa.numUvars
open Go.ChangeShapes Go.WideShapes Go.ChangeAt Go.RowKit
set_option linter.unusedVariables false

theorem isLaw : IsLaw Try.f3 Rows.numUvarsSpec 4 where
  vars := rfl
  fn_ := fun H ds h => by
    match ds, h with
    | [d1, d2], _ => exact ⟨rfl, rfl, rfl⟩
  res := rfl
  bool_ := Try.underlying4
  read := by
    intro t ht
    have h : t ∈ [22, 23] := ht
    simp at h
    rcases h with rfl | rfl <;> exact ⟨by kernel_rfl, of_decide_eq_true (by kernel_rfl)⟩

theorem contract {H : Type} {enc : TypeId × Value → H} (W : World) (args : Array Value) (hn : args.size = Try.f3.params.size)
    (ha : ∀ (j : Nat) (t : TypeId) (v : Value), Try.f3.params[j]? = some t → args[j]? = some v → Came enc Try.prog W (fun _ => True) t v) :
    Calls Try.prog 3 args W fun e W' => e = .returned (.bool true) ∧ Below W.heap.size W W' := by
  match args, hn with
  | ⟨[v0, v1]⟩, _ =>
    obtain ⟨s0, rfl⟩ := (ha 0 22 _ rfl rfl).u64 Try.underlying22
    obtain ⟨A1, l1, c1, rfl, h1a, h1b, h1c⟩ := (ha 1 23 _ rfl rfl).bytes Try.underlying23 Try.underlying5 (by kernel_rfl) (by kernel_rfl)
    exact numUvars_walk s0 l1 A1 c1 W h1c h1a h1b

set_option maxRecDepth 100000 in
theorem holds : Rows.NumUvarsSaid :=
  OpenClaim.holds_of_wide 3 Try.f3 rfl rfl rfl rfl rfl rfl rfl ⟨rfl, rfl, rfl, rfl, rfl⟩ rfl rfl rfl rfl rfl (by kernel_rfl) Try.func3 (by kernel_rfl)
    (of_decide_eq_true (by kernel_rfl)) (by unfold Func.isWrapper; first | (rw [if_pos (by decide +kernel)]; kernel_rfl) | (rw [if_neg (by decide +kernel)]; exact ⟨rfl, rfl⟩))
    (fun os started H enc _ => law_lifted isLaw Try.func3 (by kernel_rfl) started
      (ChangeSpec.witness6 (enc := enc) (C := Try.checked) false ⟨#[], #[.int .u64 0, .slice none 0 0], []⟩ 8 (by kernel_rfl) (by kernel_rfl) (by kernel_rfl) (by kernel_rfl)) contract)
#print axioms holds
end Go.Proofs.Ytbiinlkdgankkaa.numUvars
