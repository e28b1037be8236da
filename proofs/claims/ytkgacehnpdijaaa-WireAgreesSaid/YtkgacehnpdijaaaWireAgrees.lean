/- WireAgrees: any modes agree as the document says. -/
import Derived.Test.YtkgacehnpdijaaaFrame
import Derived.Test.YtkgacehnpdijaaaWireLawA
namespace Go.Proofs.Ytkgacehnpdijaaa.wireAgrees
open Go.ChangeShapes Go.WideShapes Go.ChangeAt Go.RowKit
set_option linter.unusedVariables false

theorem isLaw : IsLaw Try.f5 Rows.wireAgreesSpec 4 where
  vars := rfl
  fn_ := fun H ds h => by
    match ds, h with
    | [d1, d2, d3], _ => exact ⟨rfl, rfl, rfl⟩
  res := rfl
  bool_ := Try.underlying4
  read := by
    intro t ht
    have h : t ∈ [3, 3, 3] := ht
    simp at h
    rcases h with rfl | rfl | rfl <;> exact ⟨by kernel_rfl, of_decide_eq_true (by kernel_rfl)⟩

theorem contract {H : Type} {enc : TypeId × Value → H} (W : World) (args : Array Value) (hn : args.size = Try.f5.params.size)
    (ha : ∀ (j : Nat) (t : TypeId) (v : Value), Try.f5.params[j]? = some t → args[j]? = some v → Came enc Try.prog W (fun _ => True) t v) :
    Calls Try.prog 5 args W fun e W' => e = .returned (.bool true) ∧ Below W.heap.size W W' := by
  match args, hn with
  | ⟨[v0, v1, v2]⟩, _ =>
    obtain ⟨n0, rfl, lo0, hi0⟩ := (ha 0 3 _ rfl rfl).i64 Try.underlying3
    obtain ⟨n1, rfl, lo1, hi1⟩ := (ha 1 3 _ rfl rfl).i64 Try.underlying3
    obtain ⟨n2, rfl, lo2, hi2⟩ := (ha 2 3 _ rfl rfl).i64 Try.underlying3
    exact wireAgrees_any n0 n1 n2 W

set_option maxRecDepth 100000 in
theorem holds : Rows.WireAgreesSaid :=
  OpenClaim.holds_of_wide 5 Try.f5 rfl rfl rfl rfl rfl rfl rfl ⟨rfl, rfl, rfl, rfl, rfl⟩ rfl rfl rfl rfl rfl (by kernel_rfl) Try.func5 (by kernel_rfl)
    (of_decide_eq_true (by kernel_rfl)) (by unfold Func.isWrapper; first | (rw [if_pos (by decide +kernel)]; kernel_rfl) | (rw [if_neg (by decide +kernel)]; exact ⟨rfl, rfl⟩))
    (fun os started H enc _ => law_lifted isLaw Try.func5 (by kernel_rfl) started
      (ChangeSpec.witness6 (enc := enc) (C := Try.checked) false ⟨#[], #[.int .i64 0, .int .i64 0, .int .i64 0], []⟩ 8 (by kernel_rfl) (by kernel_rfl) (by kernel_rfl) (by kernel_rfl)) contract)
#print axioms holds
end Go.Proofs.Ytkgacehnpdijaaa.wireAgrees
