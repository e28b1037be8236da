/- By any map writes are shared as the document says; a right map's shares part them, each at its owner, for every map and writes. No conditions. -/
import Derived.Test.YtcljendidhfobaaFrame
import Derived.Test.YtcljendidhfobaaCoLawD
namespace Go.Proofs.Ytcljendidhfobaa.coordShares
open Go.ChangeShapes Go.WideShapes Go.ChangeAt Go.RowKit
set_option linter.unusedVariables false

theorem isLaw : IsLaw Try.f5 Rows.coordSharesSpec 4 where
  vars := rfl
  fn_ := fun H ds h => by
    match ds, h with
    | [d1, d2], _ => exact ⟨rfl, rfl, rfl⟩
  res := rfl
  bool_ := Try.underlying4
  read := by
    intro t ht
    have h : t ∈ [53, 26] := ht
    simp at h
    rcases h with rfl | rfl <;> exact ⟨by kernel_rfl, of_decide_eq_true (by kernel_rfl)⟩

theorem contract {H : Type} {enc : TypeId × Value → H} (W : World) (args : Array Value) (hn : args.size = Try.f5.params.size)
    (ha : ∀ (j : Nat) (t : TypeId) (v : Value), Try.f5.params[j]? = some t → args[j]? = some v → Came enc Try.prog W (fun _ => True) t v) :
    Calls Try.prog 5 args W fun e W' => e = .returned (.bool true) ∧ Below W.heap.size W W' := by
  match args, hn with
  | ⟨[v0, v1]⟩, _ =>
    have h0 := ha 0 53 _ rfl rfl
    have h1 := ha 1 26 _ rfl rfl
    exact by obtain ⟨m, rfl, hm⟩ := h0.mp; obtain ⟨A, c, vs, rfl, hr⟩ := h1.vers; exact coordShares_any m A c vs W hm hr.v

set_option maxRecDepth 100000 in
theorem holds : Rows.CoordSharesSaid :=
  OpenClaim.holds_of_wide 5 Try.f5 rfl rfl rfl rfl rfl rfl rfl ⟨rfl, rfl, rfl, rfl, rfl⟩ rfl rfl rfl rfl rfl (by kernel_rfl) Try.func5 (by kernel_rfl)
    (of_decide_eq_true (by kernel_rfl)) (by unfold Func.isWrapper; first | (rw [if_pos (by decide +kernel)]; kernel_rfl) | (rw [if_neg (by decide +kernel)]; exact ⟨rfl, rfl⟩))
    (fun os started H enc _ => law_lifted isLaw Try.func5 (by kernel_rfl) started
      (ChangeSpec.witness6 (enc := enc) (C := Try.checked) false ⟨#[], #[.agg #[.slice none 0 0, .slice none 0 0], .slice none 0 0], []⟩ 8 (by kernel_rfl) (by kernel_rfl) (by kernel_rfl) (by kernel_rfl)) contract)
#print axioms holds
end Go.Proofs.Ytcljendidhfobaa.coordShares
