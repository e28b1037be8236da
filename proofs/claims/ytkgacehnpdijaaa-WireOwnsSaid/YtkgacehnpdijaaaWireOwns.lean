/- WireOwns: what is handed in stays, what is answered is new memory. -/
import Derived.Test.YtkgacehnpdijaaaFrame
import Derived.Test.YtkgacehnpdijaaaWireLawI
namespace Go.Proofs.Ytkgacehnpdijaaa.wireOwns
open Go.ChangeShapes Go.WideShapes Go.ChangeAt Go.RowKit
set_option linter.unusedVariables false

theorem isLaw : IsLaw Try.f10 Rows.wireOwnsSpec 4 where
  vars := rfl
  fn_ := fun H ds h => by
    match ds, h with
    | [d1], _ => exact ⟨rfl, rfl, rfl⟩
  res := rfl
  bool_ := Try.underlying4
  read := by
    intro t ht
    have h : t ∈ [28] := ht
    simp at h
    subst h <;> exact ⟨by kernel_rfl, of_decide_eq_true (by kernel_rfl)⟩

theorem contract {H : Type} {enc : TypeId × Value → H} (W : World) (args : Array Value) (hn : args.size = Try.f10.params.size)
    (ha : ∀ (j : Nat) (t : TypeId) (v : Value), Try.f10.params[j]? = some t → args[j]? = some v → Came enc Try.prog W (fun _ => True) t v) :
    Calls Try.prog 10 args W fun e W' => e = .returned (.bool true) ∧ Below W.heap.size W W' := by
  match args, hn with
  | ⟨[v0]⟩, _ =>
    have h0 := ha 0 28 _ rfl rfl
    exact by obtain ⟨q, rfl, hq⟩ := h0.msg; obtain ⟨m, A, c, vA, vc⟩ := q; exact wireOwns_any m A c vA vc W hq

set_option maxRecDepth 100000 in
theorem holds : Rows.WireOwnsSaid :=
  OpenClaim.holds_of_wide 10 Try.f10 rfl rfl rfl rfl rfl rfl rfl ⟨rfl, rfl, rfl, rfl, rfl⟩ rfl rfl rfl rfl rfl (by kernel_rfl) Try.func10 (by kernel_rfl)
    (of_decide_eq_true (by kernel_rfl)) (by unfold Func.isWrapper; first | (rw [if_pos (by decide +kernel)]; kernel_rfl) | (rw [if_neg (by decide +kernel)]; exact ⟨rfl, rfl⟩))
    (fun os started H enc _ => law_lifted isLaw Try.func10 (by kernel_rfl) started
      (ChangeSpec.witness6 (enc := enc) (C := Try.checked) false ⟨#[], #[.agg #[.int .i64 0, .int .u64 0, .int .u64 0, .int .u64 0, .string .empty, .string .empty, .slice none 0 0, .slice none 0 0, .int .i64 0, .int .i64 0, .int .i64 0, .int .i64 0, .int .i64 0, .string .empty]], []⟩ 8 (by kernel_rfl) (by kernel_rfl) (by kernel_rfl) (by kernel_rfl)) contract)
#print axioms holds
end Go.Proofs.Ytkgacehnpdijaaa.wireOwns
