/- A transaction's stamp is above its time, not below any vote, and one of them; it is decided once, and goes once, for every low, shares and script. No conditions. -/
import Derived.Test.YtcljendidhfobaaFrame
import Derived.Test.YtcljendidhfobaaCoLawB
namespace Go.Proofs.Ytcljendidhfobaa.coordStamps
open Go.ChangeShapes Go.WideShapes Go.ChangeAt Go.RowKit
set_option linter.unusedVariables false

theorem isLaw : IsLaw Try.f4 Rows.coordStampsSpec 4 where
  vars := rfl
  fn_ := fun H ds h => by
    match ds, h with
    | [d1, d2, d3], _ => exact ⟨rfl, rfl, rfl⟩
  res := rfl
  bool_ := Try.underlying4
  read := by
    intro t ht
    have h : t ∈ [31, 22, 40] := ht
    simp at h
    rcases h with rfl | rfl | rfl <;> exact ⟨by kernel_rfl, of_decide_eq_true (by kernel_rfl)⟩

theorem contract {H : Type} {enc : TypeId × Value → H} (W : World) (args : Array Value) (hn : args.size = Try.f4.params.size)
    (ha : ∀ (j : Nat) (t : TypeId) (v : Value), Try.f4.params[j]? = some t → args[j]? = some v → Came enc Try.prog W (fun _ => True) t v) :
    Calls Try.prog 4 args W fun e W' => e = .returned (.bool true) ∧ Below W.heap.size W W' := by
  match args, hn with
  | ⟨[v0, v1, v2]⟩, _ =>
    obtain ⟨s0, rfl⟩ := (ha 0 31 _ rfl rfl).u64 Try.underlying31
    have h1 := ha 1 22 _ rfl rfl
    have h2 := ha 2 40 _ rfl rfl
    exact by obtain ⟨A, c, l, rfl, hi⟩ := h1.shares; obtain ⟨B, d, r, rfl, hrd, hd, hr⟩ := h2.cops; exact coordStamps_any (s0.toNat : Int) A B c d l r W hi hr hrd hd (by omega) (by have := s0.isLt; omega)

set_option maxRecDepth 100000 in
theorem holds : Rows.CoordStampsSaid :=
  OpenClaim.holds_of_wide 4 Try.f4 rfl rfl rfl rfl rfl rfl rfl ⟨rfl, rfl, rfl, rfl, rfl⟩ rfl rfl rfl rfl rfl (by kernel_rfl) Try.func4 (by kernel_rfl)
    (of_decide_eq_true (by kernel_rfl)) (by unfold Func.isWrapper; first | (rw [if_pos (by decide +kernel)]; kernel_rfl) | (rw [if_neg (by decide +kernel)]; exact ⟨rfl, rfl⟩))
    (fun os started H enc _ => law_lifted isLaw Try.func4 (by kernel_rfl) started
      (ChangeSpec.witness6 (enc := enc) (C := Try.checked) false ⟨#[], #[.int .u64 0, .slice none 0 0, .slice none 0 0], []⟩ 8 (by kernel_rfl) (by kernel_rfl) (by kernel_rfl) (by kernel_rfl)) contract)
#print axioms holds
end Go.Proofs.Ytcljendidhfobaa.coordStamps
