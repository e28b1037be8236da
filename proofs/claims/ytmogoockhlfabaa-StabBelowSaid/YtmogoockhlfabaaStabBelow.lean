/- Nothing is called stable that a member hasn't told it has applied since the last join, or that was stable ahead of it; for every count of nodes, members, script and member watched. -/
import Derived.Test.YtmogoockhlfabaaFrame
import Derived.Test.YtmogoockhlfabaaStabLawB
namespace Go.Proofs.Ytmogoockhlfabaa.stabBelow
open Go.ChangeShapes Go.WideShapes Go.ChangeAt Go.RowKit
set_option linter.unusedVariables false

theorem isLaw : IsLaw Try.f4 Rows.stabBelowSpec 4 where
  vars := rfl
  fn_ := fun H ds h => by
    match ds, h with
    | [d1, d2, d3, d4], _ => exact ⟨rfl, rfl, rfl⟩
  res := rfl
  bool_ := Try.underlying4
  read := by
    intro t ht
    have h : t ∈ [3, 22, 23, 3] := ht
    simp at h
    rcases h with rfl | rfl | rfl | rfl <;> exact ⟨by kernel_rfl, of_decide_eq_true (by kernel_rfl)⟩

theorem contract {H : Type} {enc : TypeId × Value → H} (W : World) (args : Array Value) (hn : args.size = Try.f4.params.size)
    (ha : ∀ (j : Nat) (t : TypeId) (v : Value), Try.f4.params[j]? = some t → args[j]? = some v → Came enc Try.prog W (fun _ => True) t v) :
    Calls Try.prog 4 args W fun e W' => e = .returned (.bool true) ∧ Below W.heap.size W W' := by
  match args, hn with
  | ⟨[v0, v1, v2, v3]⟩, _ =>
    obtain ⟨n0, rfl, lo0, hi0⟩ := (ha 0 3 _ rfl rfl).i64 Try.underlying3
    have h1 := ha 1 22 _ rfl rfl
    have h2 := ha 2 23 _ rfl rfl
    obtain ⟨n3, rfl, lo3, hi3⟩ := (ha 3 3 _ rfl rfl).i64 Try.underlying3
    exact (by
      obtain ⟨a1, rfl⟩ := h1.has
      obtain ⟨A, c, r, rfl, g0, g1, g2, g3⟩ := h2.ops
      exact stabBelow_any n0 n3 a1 A c r W g2 g0 g1 (fun x hx => (g3 x hx).1))

set_option maxRecDepth 100000 in
theorem holds : Rows.StabBelowSaid :=
  OpenClaim.holds_of_wide 4 Try.f4 rfl rfl rfl rfl rfl rfl rfl ⟨rfl, rfl, rfl, rfl, rfl⟩ rfl rfl rfl rfl rfl (by kernel_rfl) Try.func4 (by kernel_rfl)
    (of_decide_eq_true (by kernel_rfl)) (by unfold Func.isWrapper; first | (rw [if_pos (by decide +kernel)]; kernel_rfl) | (rw [if_neg (by decide +kernel)]; exact ⟨rfl, rfl⟩))
    (fun os started H enc _ => law_lifted isLaw Try.func4 (by kernel_rfl) started
      (ChangeSpec.witness6 (enc := enc) (C := Try.checked) false ⟨#[], #[.int .i64 0, .agg #[.bool false, .bool false, .bool false, .bool false], .slice none 0 0, .int .i64 0], []⟩ 8 (by kernel_rfl) (by kernel_rfl) (by kernel_rfl) (by kernel_rfl)) contract)
#print axioms holds
end Go.Proofs.Ytmogoockhlfabaa.stabBelow
