/- WireApart: two messages that are not the same have unlike bodies. -/
import Derived.Test.YtkgacehnpdijaaaFrame
import Derived.Test.YtkgacehnpdijaaaWireLawC
namespace Go.Proofs.Ytkgacehnpdijaaa.wireApart
open Go.ChangeShapes Go.WideShapes Go.ChangeAt Go.RowKit
set_option linter.unusedVariables false

theorem isLaw : IsLaw Try.f4 Rows.wireApartSpec 4 where
  vars := rfl
  fn_ := fun H ds h => by
    match ds, h with
    | [d1, d2], _ => exact ⟨rfl, rfl, rfl⟩
  res := rfl
  bool_ := Try.underlying4
  read := by
    intro t ht
    have h : t ∈ [28, 28] := ht
    simp at h
    rcases h with rfl | rfl <;> exact ⟨by kernel_rfl, of_decide_eq_true (by kernel_rfl)⟩

theorem contract {H : Type} {enc : TypeId × Value → H} (W : World) (args : Array Value) (hn : args.size = Try.f4.params.size)
    (ha : ∀ (j : Nat) (t : TypeId) (v : Value), Try.f4.params[j]? = some t → args[j]? = some v → Came enc Try.prog W (fun _ => True) t v) :
    Calls Try.prog 4 args W fun e W' => e = .returned (.bool true) ∧ Below W.heap.size W W' := by
  match args, hn with
  | ⟨[v0, v1]⟩, _ =>
    have h0 := ha 0 28 _ rfl rfl
    have h1 := ha 1 28 _ rfl rfl
    exact by obtain ⟨q, rfl, hq⟩ := h0.msg; obtain ⟨m, A, c, vA, vc⟩ := q; obtain ⟨q2, rfl, hq2⟩ := h1.msg; obtain ⟨m2, A2, c2, vA2, vc2⟩ := q2; exact wireApart_any m m2 A c vA vc A2 c2 vA2 vc2 W hq hq2

set_option maxRecDepth 100000 in
theorem holds : Rows.WireApartSaid :=
  OpenClaim.holds_of_wide 4 Try.f4 rfl rfl rfl rfl rfl rfl rfl ⟨rfl, rfl, rfl, rfl, rfl⟩ rfl rfl rfl rfl rfl (by kernel_rfl) Try.func4 (by kernel_rfl)
    (of_decide_eq_true (by kernel_rfl)) (by unfold Func.isWrapper; first | (rw [if_pos (by decide +kernel)]; kernel_rfl) | (rw [if_neg (by decide +kernel)]; exact ⟨rfl, rfl⟩))
    (fun os started H enc _ => law_lifted isLaw Try.func4 (by kernel_rfl) started
      (ChangeSpec.witness6 (enc := enc) (C := Try.checked) false ⟨#[], #[.agg #[.int .i64 0, .int .u64 0, .int .u64 0, .int .u64 0, .string .empty, .string .empty, .slice none 0 0, .slice none 0 0, .int .i64 0, .int .i64 0, .int .i64 0, .int .i64 0, .int .i64 0, .string .empty], .agg #[.int .i64 0, .int .u64 0, .int .u64 0, .int .u64 0, .string .empty, .string .empty, .slice none 0 0, .slice none 0 0, .int .i64 0, .int .i64 0, .int .i64 0, .int .i64 0, .int .i64 0, .string .empty]], []⟩ 8 (by kernel_rfl) (by kernel_rfl) (by kernel_rfl) (by kernel_rfl)) contract)
#print axioms holds
end Go.Proofs.Ytkgacehnpdijaaa.wireApart
