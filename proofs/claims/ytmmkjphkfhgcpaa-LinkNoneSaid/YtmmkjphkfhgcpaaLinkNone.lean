/- A nil end refuses, and tells nothing; for every frame and all bytes. -/
import Derived.Test.YtmmkjphkfhgcpaaFrame
import Derived.Test.YtmmkjphkfhgcpaaLinkLawA
namespace Go.Proofs.Ytmmkjphkfhgcpaa.linkNone
open Go.ChangeShapes Go.WideShapes Go.ChangeAt Go.RowKit
set_option linter.unusedVariables false

theorem isLaw : IsLaw Try.f9 Rows.linkNoneSpec 4 where
  vars := rfl
  fn_ := fun H ds h => by
    match ds, h with
    | [d1, d2], _ => exact ⟨rfl, rfl, rfl⟩
  res := rfl
  bool_ := Try.underlying4
  read := by
    intro t ht
    have h : t ∈ [31, 22] := ht
    simp at h
    rcases h with rfl | rfl <;> exact ⟨by kernel_rfl, of_decide_eq_true (by kernel_rfl)⟩

theorem contract {H : Type} {enc : TypeId × Value → H} (W : World) (args : Array Value) (hn : args.size = Try.f9.params.size)
    (ha : ∀ (j : Nat) (t : TypeId) (v : Value), Try.f9.params[j]? = some t → args[j]? = some v → Came enc Try.prog W (fun _ => True) t v) :
    Calls Try.prog 9 args W fun e W' => e = .returned (.bool true) ∧ Below W.heap.size W W' := by
  match args, hn with
  | ⟨[v0, v1]⟩, _ =>
    have h0 := ha 0 31 _ rfl rfl
    obtain ⟨A1, l1, c1, rfl, h1a, h1b, h1c⟩ := (ha 1 22 _ rfl rfl).bytes Try.underlying22 Try.underlying5 (by kernel_rfl) (by kernel_rfl)
    exact (by
      obtain ⟨v, e, s, a, A, b, c, rfl, _⟩ := h0.frame
      exact linkNone_any v e s a A b.length c A1 l1.length c1 W)

set_option maxRecDepth 100000 in
theorem holds : Rows.LinkNoneSaid :=
  OpenClaim.holds_of_wide 9 Try.f9 rfl rfl rfl rfl rfl rfl rfl ⟨rfl, rfl, rfl, rfl, rfl⟩ rfl rfl rfl rfl rfl (by kernel_rfl) Try.func9 (by kernel_rfl)
    (of_decide_eq_true (by kernel_rfl)) (by unfold Func.isWrapper; first | (rw [if_pos (by decide +kernel)]; kernel_rfl) | (rw [if_neg (by decide +kernel)]; exact ⟨rfl, rfl⟩))
    (fun os started H enc _ => law_lifted isLaw Try.func9 (by kernel_rfl) started
      (ChangeSpec.witness6 (enc := enc) (C := Try.checked) false ⟨#[], #[.agg #[.int .i64 0, .int .i64 0, .int .i64 0, .int .i64 0, .slice none 0 0], .slice none 0 0], []⟩ 8 (by kernel_rfl) (by kernel_rfl) (by kernel_rfl) (by kernel_rfl)) contract)
#print axioms holds
end Go.Proofs.Ytmmkjphkfhgcpaa.linkNone
