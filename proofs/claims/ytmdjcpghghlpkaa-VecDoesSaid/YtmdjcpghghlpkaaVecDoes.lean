/- VecDoes: any vector is made plain, raised, measured and resized as the document says; for every input. -/
import Derived.Test.YtmdjcpghghlpkaaFrame
import Derived.Test.YtmdjcpghghlpkaaVecLawB
namespace Go.Proofs.Ytmdjcpghghlpkaa.vecDoes
open Go.ChangeShapes Go.WideShapes Go.ChangeAt Go.RowKit
set_option linter.unusedVariables false

theorem isLaw : IsLaw Try.f4 Rows.vecDoesSpec 4 where
  vars := rfl
  fn_ := fun H ds h => by
    match ds, h with
    | [d1, d2, d3, d4, d5], _ => exact ⟨rfl, rfl, rfl⟩
  res := rfl
  bool_ := Try.underlying4
  read := by
    intro t ht
    have h : t ∈ [26, 3, 23, 3, 22] := ht
    simp at h
    rcases h with rfl | rfl | rfl | rfl | rfl <;> exact ⟨by kernel_rfl, of_decide_eq_true (by kernel_rfl)⟩

theorem contract {H : Type} {enc : TypeId × Value → H} (W : World) (args : Array Value) (hn : args.size = Try.f4.params.size)
    (ha : ∀ (j : Nat) (t : TypeId) (v : Value), Try.f4.params[j]? = some t → args[j]? = some v → Came enc Try.prog W (fun _ => True) t v) :
    Calls Try.prog 4 args W fun e W' => e = .returned (.bool true) ∧ Below W.heap.size W W' := by
  match args, hn with
  | ⟨[v0, v1, v2, v3, v4]⟩, _ =>
    have h0 := ha 0 26 _ rfl rfl
    obtain ⟨n1, rfl, lo1, hi1⟩ := (ha 1 3 _ rfl rfl).i64 Try.underlying3
    obtain ⟨s2, rfl⟩ := (ha 2 23 _ rfl rfl).u64 Try.underlying23
    obtain ⟨n3, rfl, lo3, hi3⟩ := (ha 3 3 _ rfl rfl).i64 Try.underlying3
    have h4 := ha 4 22 _ rfl rfl
    exact (by obtain ⟨v, rfl, _⟩ := h0.vec; obtain ⟨has, rfl⟩ := h4.has; exact vecDoes_any v _ _ _ has W)

set_option maxRecDepth 100000 in
theorem holds : Rows.VecDoesSaid :=
  OpenClaim.holds_of_wide 4 Try.f4 rfl rfl rfl rfl rfl rfl rfl ⟨rfl, rfl, rfl, rfl, rfl⟩ rfl rfl rfl rfl rfl (by kernel_rfl) Try.func4 (by kernel_rfl)
    (of_decide_eq_true (by kernel_rfl)) (by unfold Func.isWrapper; first | (rw [if_pos (by decide +kernel)]; kernel_rfl) | (rw [if_neg (by decide +kernel)]; exact ⟨rfl, rfl⟩))
    (fun os started H enc _ => law_lifted isLaw Try.func4 (by kernel_rfl) started
      (ChangeSpec.witness6 (enc := enc) (C := Try.checked) false ⟨#[], #[.agg #[.int .i64 0, .bool false, .bool false, .bool false, .bool false, .int .u64 0, .int .u64 0, .int .u64 0, .int .u64 0], .int .i64 0, .int .u64 0, .int .i64 0, .agg #[.bool false, .bool false, .bool false, .bool false]], []⟩ 8 (by kernel_rfl) (by kernel_rfl) (by kernel_rfl) (by kernel_rfl)) contract)
#print axioms holds
end Go.Proofs.Ytmdjcpghghlpkaa.vecDoes
