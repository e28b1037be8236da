/- A frame of which some bits within 32 in a row are turned is refused; for every frame, place and bits. -/
import Derived.Test.YtjlmcjegfbnhpaaFrame
import Derived.Test.YtjlmcjegfbnhpaaFrmLawE
namespace Go.Proofs.Ytjlmcjegfbnhpaa.frameBursts
open Go.ChangeShapes Go.WideShapes Go.ChangeAt Go.RowKit
set_option linter.unusedVariables false

theorem isLaw : IsLaw Try.f6 Rows.frameBurstsSpec 4 where
  vars := rfl
  fn_ := fun H ds h => by
    match ds, h with
    | [d1, d2, d3], _ => exact ⟨rfl, rfl, rfl⟩
  res := rfl
  bool_ := Try.underlying4
  read := by
    intro t ht
    have h : t ∈ [24, 3, 36] := ht
    simp at h
    rcases h with rfl | rfl | rfl <;> exact ⟨by kernel_rfl, of_decide_eq_true (by kernel_rfl)⟩

theorem contract {H : Type} {enc : TypeId × Value → H} (W : World) (args : Array Value) (hn : args.size = Try.f6.params.size)
    (ha : ∀ (j : Nat) (t : TypeId) (v : Value), Try.f6.params[j]? = some t → args[j]? = some v → Came enc Try.prog W (fun _ => True) t v) :
    Calls Try.prog 6 args W fun e W' => e = .returned (.bool true) ∧ Below W.heap.size W W' := by
  match args, hn with
  | ⟨[v0, v1, v2]⟩, _ =>
    have h0 := ha 0 24 _ rfl rfl
    obtain ⟨n1, rfl, lo1, hi1⟩ := (ha 1 3 _ rfl rfl).i64 Try.underlying3
    obtain ⟨s2, rfl⟩ := (ha 2 36 _ rfl rfl).u32 Try.underlying36
    exact (by
      obtain ⟨f0, A0, c0, rfl, g0, g1, g2, g3⟩ := h0.frame
      exact frameBursts_any f0 A0 c0 n1 s2 W g3 g1 g2)

set_option maxRecDepth 100000 in
theorem holds : Rows.FrameBurstsSaid :=
  OpenClaim.holds_of_wide 6 Try.f6 rfl rfl rfl rfl rfl rfl rfl ⟨rfl, rfl, rfl, rfl, rfl⟩ rfl rfl rfl rfl rfl (by kernel_rfl) Try.func6 (by kernel_rfl)
    (of_decide_eq_true (by kernel_rfl)) (by unfold Func.isWrapper; first | (rw [if_pos (by decide +kernel)]; kernel_rfl) | (rw [if_neg (by decide +kernel)]; exact ⟨rfl, rfl⟩))
    (fun os started H enc _ => law_lifted isLaw Try.func6 (by kernel_rfl) started
      (ChangeSpec.witness6 (enc := enc) (C := Try.checked) false ⟨#[], #[.agg #[.int .i64 0, .int .i64 0, .int .i64 0, .int .i64 0, .slice none 0 0], .int .i64 0, .int .u32 0], []⟩ 8 (by kernel_rfl) (by kernel_rfl) (by kernel_rfl) (by kernel_rfl)) contract)
#print axioms holds
end Go.Proofs.Ytjlmcjegfbnhpaa.frameBursts
