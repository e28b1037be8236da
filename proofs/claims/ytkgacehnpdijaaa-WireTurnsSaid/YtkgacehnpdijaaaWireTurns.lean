/- WireTurns: a body that is turned into the other version, and back, is the same; what is no body is refused. -/
import Derived.Test.YtkgacehnpdijaaaFrame
import Derived.Test.YtkgacehnpdijaaaWireLawF
namespace Go.Proofs.Ytkgacehnpdijaaa.wireTurns
open Go.ChangeShapes Go.WideShapes Go.ChangeAt Go.RowKit
set_option linter.unusedVariables false

theorem isLaw : IsLaw Try.f11 Rows.wireTurnsSpec 4 where
  vars := rfl
  fn_ := fun H ds h => by
    match ds, h with
    | [d1, d2, d3], _ => exact ⟨rfl, rfl, rfl⟩
  res := rfl
  bool_ := Try.underlying4
  read := by
    intro t ht
    have h : t ∈ [3, 3, 31] := ht
    simp at h
    rcases h with rfl | rfl | rfl <;> exact ⟨by kernel_rfl, of_decide_eq_true (by kernel_rfl)⟩

theorem contract {H : Type} {enc : TypeId × Value → H} (W : World) (args : Array Value) (hn : args.size = Try.f11.params.size)
    (ha : ∀ (j : Nat) (t : TypeId) (v : Value), Try.f11.params[j]? = some t → args[j]? = some v → Came enc Try.prog W (fun _ => True) t v) :
    Calls Try.prog 11 args W fun e W' => e = .returned (.bool true) ∧ Below W.heap.size W W' := by
  match args, hn with
  | ⟨[v0, v1, v2]⟩, _ =>
    obtain ⟨n0, rfl, lo0, hi0⟩ := (ha 0 3 _ rfl rfl).i64 Try.underlying3
    obtain ⟨n1, rfl, lo1, hi1⟩ := (ha 1 3 _ rfl rfl).i64 Try.underlying3
    obtain ⟨A2, l2, c2, rfl, h2a, h2b, h2c⟩ := (ha 2 31 _ rfl rfl).bytes Try.underlying31 Try.underlying5 (by kernel_rfl) (by kernel_rfl)
    exact (wireTurns_any n0 n1 l2 A2 c2 W h2c h2a ⟨by omega, by omega⟩)

set_option maxRecDepth 100000 in
theorem holds : Rows.WireTurnsSaid :=
  OpenClaim.holds_of_wide 11 Try.f11 rfl rfl rfl rfl rfl rfl rfl ⟨rfl, rfl, rfl, rfl, rfl⟩ rfl rfl rfl rfl rfl (by kernel_rfl) Try.func11 (by kernel_rfl)
    (of_decide_eq_true (by kernel_rfl)) (by unfold Func.isWrapper; first | (rw [if_pos (by decide +kernel)]; kernel_rfl) | (rw [if_neg (by decide +kernel)]; exact ⟨rfl, rfl⟩))
    (fun os started H enc _ => law_lifted isLaw Try.func11 (by kernel_rfl) started
      (ChangeSpec.witness6 (enc := enc) (C := Try.checked) false ⟨#[], #[.int .i64 0, .int .i64 0, .slice none 0 0], []⟩ 8 (by kernel_rfl) (by kernel_rfl) (by kernel_rfl) (by kernel_rfl)) contract)
#print axioms holds
end Go.Proofs.Ytkgacehnpdijaaa.wireTurns
