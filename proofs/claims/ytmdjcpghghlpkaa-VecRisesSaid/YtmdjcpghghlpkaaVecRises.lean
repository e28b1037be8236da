/- VecRises: raised, the least time does not fall, nor with a member less, and who is no member changes nothing; for every input. -/
import Derived.Test.YtmdjcpghghlpkaaFrame
import Derived.Test.YtmdjcpghghlpkaaVecLawA
namespace Go.Proofs.Ytmdjcpghghlpkaa.vecRises
open Go.ChangeShapes Go.WideShapes Go.ChangeAt Go.RowKit
set_option linter.unusedVariables false

theorem isLaw : IsLaw Try.f3 Rows.vecRisesSpec 4 where
  vars := rfl
  fn_ := fun H ds h => by
    match ds, h with
    | [d1, d2, d3, d4], _ => exact ⟨rfl, rfl, rfl⟩
  res := rfl
  bool_ := Try.underlying4
  read := by
    intro t ht
    have h : t ∈ [26, 3, 23, 3] := ht
    simp at h
    rcases h with rfl | rfl | rfl | rfl <;> exact ⟨by kernel_rfl, of_decide_eq_true (by kernel_rfl)⟩

theorem contract {H : Type} {enc : TypeId × Value → H} (W : World) (args : Array Value) (hn : args.size = Try.f3.params.size)
    (ha : ∀ (j : Nat) (t : TypeId) (v : Value), Try.f3.params[j]? = some t → args[j]? = some v → Came enc Try.prog W (fun _ => True) t v) :
    Calls Try.prog 3 args W fun e W' => e = .returned (.bool true) ∧ Below W.heap.size W W' := by
  match args, hn with
  | ⟨[v0, v1, v2, v3]⟩, _ =>
    have h0 := ha 0 26 _ rfl rfl
    obtain ⟨n1, rfl, lo1, hi1⟩ := (ha 1 3 _ rfl rfl).i64 Try.underlying3
    obtain ⟨s2, rfl⟩ := (ha 2 23 _ rfl rfl).u64 Try.underlying23
    obtain ⟨n3, rfl, lo3, hi3⟩ := (ha 3 3 _ rfl rfl).i64 Try.underlying3
    exact (by obtain ⟨v, rfl, _⟩ := h0.vec; exact vecRises_any v _ _ _ W)

set_option maxRecDepth 100000 in
theorem holds : Rows.VecRisesSaid :=
  OpenClaim.holds_of_wide 3 Try.f3 rfl rfl rfl rfl rfl rfl rfl ⟨rfl, rfl, rfl, rfl, rfl⟩ rfl rfl rfl rfl rfl (by kernel_rfl) Try.func3 (by kernel_rfl)
    (of_decide_eq_true (by kernel_rfl)) (by unfold Func.isWrapper; first | (rw [if_pos (by decide +kernel)]; kernel_rfl) | (rw [if_neg (by decide +kernel)]; exact ⟨rfl, rfl⟩))
    (fun os started H enc _ => law_lifted isLaw Try.func3 (by kernel_rfl) started
      (ChangeSpec.witness6 (enc := enc) (C := Try.checked) false ⟨#[], #[.agg #[.int .i64 0, .bool false, .bool false, .bool false, .bool false, .int .u64 0, .int .u64 0, .int .u64 0, .int .u64 0], .int .i64 0, .int .u64 0, .int .i64 0], []⟩ 8 (by kernel_rfl) (by kernel_rfl) (by kernel_rfl) (by kernel_rfl)) contract)
#print axioms holds
end Go.Proofs.Ytmdjcpghghlpkaa.vecRises
