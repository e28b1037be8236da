/- 'NumTexts' answers true at every text, every bytes and every limit, and writes nothing that came in. Without conditions. -/
import Derived.Test.YtbiinlkdgankkaaFrame
import Derived.Test.YtbiinlkdgankkaaNumLawC
namespace Go.Proofs.Ytbiinlkdgankkaa.numTexts
open Go.ChangeShapes Go.WideShapes Go.ChangeAt Go.RowKit
set_option linter.unusedVariables false

theorem isLaw : IsLaw Try.f7 Rows.numTextsSpec 4 where
  vars := rfl
  fn_ := fun H ds h => by
    match ds, h with
    | [d1, d2, d3], _ => exact ⟨rfl, rfl, rfl⟩
  res := rfl
  bool_ := Try.underlying4
  read := by
    intro t ht
    have h : t ∈ [9, 23, 3] := ht
    simp at h
    rcases h with rfl | rfl | rfl <;> exact ⟨by kernel_rfl, of_decide_eq_true (by kernel_rfl)⟩

theorem contract {H : Type} {enc : TypeId × Value → H} (W : World) (args : Array Value) (hn : args.size = Try.f7.params.size)
    (ha : ∀ (j : Nat) (t : TypeId) (v : Value), Try.f7.params[j]? = some t → args[j]? = some v → Came enc Try.prog W (fun _ => True) t v) :
    Calls Try.prog 7 args W fun e W' => e = .returned (.bool true) ∧ Below W.heap.size W W' := by
  match args, hn with
  | ⟨[v0, v1, v2]⟩, _ =>
    obtain ⟨t0, rfl, h0⟩ := (ha 0 9 _ rfl rfl).string Try.underlying9
    obtain ⟨A1, l1, c1, rfl, h1a, h1b, h1c⟩ := (ha 1 23 _ rfl rfl).bytes Try.underlying23 Try.underlying5 (by kernel_rfl) (by kernel_rfl)
    obtain ⟨n2, rfl, lo2, hi2⟩ := (ha 2 3 _ rfl rfl).i64 Try.underlying3
    exact numTexts_walk t0 l1 A1 c1 n2 W h0 h1c h1a h1b lo2 hi2

set_option maxRecDepth 100000 in
theorem holds : Rows.NumTextsSaid :=
  OpenClaim.holds_of_wide 7 Try.f7 rfl rfl rfl rfl rfl rfl rfl ⟨rfl, rfl, rfl, rfl, rfl⟩ rfl rfl rfl rfl rfl (by kernel_rfl) Try.func7 (by kernel_rfl)
    (of_decide_eq_true (by kernel_rfl)) (by unfold Func.isWrapper; first | (rw [if_pos (by decide +kernel)]; kernel_rfl) | (rw [if_neg (by decide +kernel)]; exact ⟨rfl, rfl⟩))
    (fun os started H enc _ => law_lifted isLaw Try.func7 (by kernel_rfl) started
      (ChangeSpec.witness6 (enc := enc) (C := Try.checked) false ⟨#[], #[.string .empty, .slice none 0 0, .int .i64 0], []⟩ 8 (by kernel_rfl) (by kernel_rfl) (by kernel_rfl) (by kernel_rfl)) contract)
#print axioms holds
end Go.Proofs.Ytbiinlkdgankkaa.numTexts
