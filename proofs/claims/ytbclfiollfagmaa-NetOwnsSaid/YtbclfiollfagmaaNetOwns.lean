/- Packets' bytes are new memory; for all bytes, every place and mask. -/
import Derived.Test.YtbclfiollfagmaaFrame
import Derived.Test.YtbclfiollfagmaaNetLawB
namespace Go.Proofs.Ytbclfiollfagmaa.netOwns
open Go.ChangeShapes Go.WideShapes Go.ChangeAt Go.RowKit
set_option linter.unusedVariables false

theorem isLaw : IsLaw Try.f4 Rows.netOwnsSpec 4 where
  vars := rfl
  fn_ := fun H ds h => by
    match ds, h with
    | [d1, d2, d3], _ => exact ⟨rfl, rfl, rfl⟩
  res := rfl
  bool_ := Try.underlying4
  read := by
    intro t ht
    have h : t ∈ [31, 3, 5] := ht
    simp at h
    rcases h with rfl | rfl | rfl <;> exact ⟨by kernel_rfl, of_decide_eq_true (by kernel_rfl)⟩

theorem contract {H : Type} {enc : TypeId × Value → H} (W : World) (args : Array Value) (hn : args.size = Try.f4.params.size)
    (ha : ∀ (j : Nat) (t : TypeId) (v : Value), Try.f4.params[j]? = some t → args[j]? = some v → Came enc Try.prog W (fun _ => True) t v) :
    Calls Try.prog 4 args W fun e W' => e = .returned (.bool true) ∧ Below W.heap.size W W' := by
  match args, hn with
  | ⟨[v0, v1, v2]⟩, _ =>
    obtain ⟨A0, l0, c0, rfl, h0a, h0b, h0c⟩ := (ha 0 31 _ rfl rfl).bytes Try.underlying31 Try.underlying5 (by kernel_rfl) (by kernel_rfl)
    obtain ⟨n1, rfl, lo1, hi1⟩ := (ha 1 3 _ rfl rfl).i64 Try.underlying3
    obtain ⟨s2, rfl⟩ := (ha 2 5 _ rfl rfl).u8 Try.underlying5
    exact netOwns_any l0 A0 c0 n1 (UInt8.ofBitVec s2) W h0c h0a

set_option maxRecDepth 100000 in
theorem holds : Rows.NetOwnsSaid :=
  OpenClaim.holds_of_wide 4 Try.f4 rfl rfl rfl rfl rfl rfl rfl ⟨rfl, rfl, rfl, rfl, rfl⟩ rfl rfl rfl rfl rfl (by kernel_rfl) Try.func4 (by kernel_rfl)
    (of_decide_eq_true (by kernel_rfl)) (by unfold Func.isWrapper; first | (rw [if_pos (by decide +kernel)]; kernel_rfl) | (rw [if_neg (by decide +kernel)]; exact ⟨rfl, rfl⟩))
    (fun os started H enc _ => law_lifted isLaw Try.func4 (by kernel_rfl) started
      (ChangeSpec.witness6 (enc := enc) (C := Try.checked) false ⟨#[], #[.slice none 0 0, .int .i64 0, .int .u8 0], []⟩ 8 (by kernel_rfl) (by kernel_rfl) (by kernel_rfl) (by kernel_rfl)) contract)
#print axioms holds
end Go.Proofs.Ytbclfiollfagmaa.netOwns
