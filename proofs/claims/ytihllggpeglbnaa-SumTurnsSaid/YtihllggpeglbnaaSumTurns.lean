/- 'SumTurns' answers true at every three texts, and writes nothing that came in. Without conditions. -/
import Derived.Test.YtihllggpeglbnaaFrame
import Derived.Test.YtihllggpeglbnaaSumLaws3
namespace Go.Proofs.Ytihllggpeglbnaa.sumTurns
open Go.ChangeShapes Go.WideShapes Go.ChangeAt Go.RowKit
set_option linter.unusedVariables false

theorem isLaw : IsLaw Try.f6 Rows.sumTurnsSpec 4 where
  vars := rfl
  fn_ := fun H ds h => by
    match ds, h with
    | [d1, d2, d3], _ => exact ⟨rfl, rfl, rfl⟩
  res := rfl
  bool_ := Try.underlying4
  read := by
    intro t ht
    have h : t ∈ [23, 23, 23] := ht
    simp at h
    rcases h with rfl | rfl | rfl <;> exact ⟨by kernel_rfl, of_decide_eq_true (by kernel_rfl)⟩

theorem contract {H : Type} {enc : TypeId × Value → H} (W : World) (args : Array Value) (hn : args.size = Try.f6.params.size)
    (ha : ∀ (j : Nat) (t : TypeId) (v : Value), Try.f6.params[j]? = some t → args[j]? = some v → Came enc Try.prog W (fun _ => True) t v) :
    Calls Try.prog 6 args W fun e W' => e = .returned (.bool true) ∧ Below W.heap.size W W' := by
  match args, hn with
  | ⟨[v0, v1, v2]⟩, _ =>
    obtain ⟨A0, l0, c0, rfl, h0a, h0b, h0c⟩ := (ha 0 23 _ rfl rfl).bytes Try.underlying23 Try.underlying5 (by kernel_rfl) (by kernel_rfl)
    obtain ⟨A1, l1, c1, rfl, h1a, h1b, h1c⟩ := (ha 1 23 _ rfl rfl).bytes Try.underlying23 Try.underlying5 (by kernel_rfl) (by kernel_rfl)
    obtain ⟨A2, l2, c2, rfl, h2a, h2b, h2c⟩ := (ha 2 23 _ rfl rfl).bytes Try.underlying23 Try.underlying5 (by kernel_rfl) (by kernel_rfl)
    exact sumTurns_walk l0 l1 l2 A0 A1 A2 c0 c1 c2 W h0c h1c h2c h0a h1a h2a h0b h1b h2b

set_option maxRecDepth 100000 in
theorem holds : Rows.SumTurnsSaid :=
  OpenClaim.holds_of_wide 6 Try.f6 rfl rfl rfl rfl rfl rfl rfl ⟨rfl, rfl, rfl, rfl, rfl⟩ rfl rfl rfl rfl rfl (by kernel_rfl) Try.func6 (by kernel_rfl)
    (of_decide_eq_true (by kernel_rfl)) (by unfold Func.isWrapper; first | (rw [if_pos (by decide +kernel)]; kernel_rfl) | (rw [if_neg (by decide +kernel)]; exact ⟨rfl, rfl⟩))
    (fun os started H enc _ => law_lifted isLaw Try.func6 (by kernel_rfl) started
      (ChangeSpec.witness6 (enc := enc) (C := Try.checked) false ⟨#[], #[.slice none 0 0, .slice none 0 0, .slice none 0 0], []⟩ 8 (by kernel_rfl) (by kernel_rfl) (by kernel_rfl) (by kernel_rfl)) contract)
#print axioms holds
end Go.Proofs.Ytihllggpeglbnaa.sumTurns
