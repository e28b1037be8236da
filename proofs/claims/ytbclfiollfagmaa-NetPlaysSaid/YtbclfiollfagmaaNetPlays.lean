/- Any calls are answered as the document says; so are the ways that have packets; for every script. -/
import Derived.Test.YtbclfiollfagmaaFrame
import Derived.Test.YtbclfiollfagmaaNetLawG
namespace Go.Proofs.Ytbclfiollfagmaa.netPlays
open Go.ChangeShapes Go.WideShapes Go.ChangeAt Go.RowKit
set_option linter.unusedVariables false

theorem isLaw : IsLaw Try.f6 Rows.netPlaysSpec 4 where
  vars := rfl
  fn_ := fun H ds h => by
    match ds, h with
    | [d1], _ => exact ⟨rfl, rfl, rfl⟩
  res := rfl
  bool_ := Try.underlying4
  read := by
    intro t ht
    have h : t ∈ [41] := ht
    simp at h
    subst h <;> exact ⟨by kernel_rfl, of_decide_eq_true (by kernel_rfl)⟩

theorem contract {H : Type} {enc : TypeId × Value → H} (W : World) (args : Array Value) (hn : args.size = Try.f6.params.size)
    (ha : ∀ (j : Nat) (t : TypeId) (v : Value), Try.f6.params[j]? = some t → args[j]? = some v → Came enc Try.prog W (fun _ => True) t v) :
    Calls Try.prog 6 args W fun e W' => e = .returned (.bool true) ∧ Below W.heap.size W W' := by
  match args, hn with
  | ⟨[v0]⟩, _ =>
    have h0 := ha 0 41 _ rfl rfl
    exact (by obtain ⟨A0, c0, r0, rfl, e1, e2, e3⟩ := h0.nops; exact netPlays_any r0 A0 c0 W e3 e1)

set_option maxRecDepth 100000 in
theorem holds : Rows.NetPlaysSaid :=
  OpenClaim.holds_of_wide 6 Try.f6 rfl rfl rfl rfl rfl rfl rfl ⟨rfl, rfl, rfl, rfl, rfl⟩ rfl rfl rfl rfl rfl (by kernel_rfl) Try.func6 (by kernel_rfl)
    (of_decide_eq_true (by kernel_rfl)) (by unfold Func.isWrapper; first | (rw [if_pos (by decide +kernel)]; kernel_rfl) | (rw [if_neg (by decide +kernel)]; exact ⟨rfl, rfl⟩))
    (fun os started H enc _ => law_lifted isLaw Try.func6 (by kernel_rfl) started
      (ChangeSpec.witness6 (enc := enc) (C := Try.checked) false ⟨#[], #[.slice none 0 0], []⟩ 8 (by kernel_rfl) (by kernel_rfl) (by kernel_rfl) (by kernel_rfl)) contract)
#print axioms holds
end Go.Proofs.Ytbclfiollfagmaa.netPlays
