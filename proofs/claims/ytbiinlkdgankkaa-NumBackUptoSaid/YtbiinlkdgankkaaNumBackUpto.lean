/- 'NumBack' answers true at every number, every text, every width and every bytes, and writes nothing that came in. Condition: the arguments hold together at most 1048576 values and letters. -/
import Derived.Test.YtbiinlkdgankkaaFrame
import Derived.Test.YtbiinlkdgankkaaNumLawD
namespace Go.Proofs.Ytbiinlkdgankkaa.numBackUpto
open Go.ChangeShapes Go.WideShapes Go.ChangeAt Go.RowKit
set_option linter.unusedVariables false

theorem isLaw : IsLaw Try.f10 Rows.numBackSpec 4 where
  vars := rfl
  fn_ := fun H ds h => by
    match ds, h with
    | [d1, d2, d3, d4], _ => exact ⟨rfl, rfl, rfl⟩
  res := rfl
  bool_ := Try.underlying4
  read := by
    intro t ht
    have h : t ∈ [22, 9, 3, 23] := ht
    simp at h
    rcases h with rfl | rfl | rfl | rfl <;> exact ⟨by kernel_rfl, of_decide_eq_true (by kernel_rfl)⟩

theorem contract {H : Type} {enc : TypeId × Value → H} (W : World) (args : Array Value) (hn : args.size = Try.f10.params.size)
    (ha : ∀ (j : Nat) (t : TypeId) (v : Value), Try.f10.params[j]? = some t → args[j]? = some v → Came enc Try.prog W (fun d => Rows.uptoBulk d ≤ 1048576) t v) :
    Calls Try.prog 10 args W fun e W' => e = .returned (.bool true) ∧ Below W.heap.size W W' := by
  match args, hn with
  | ⟨[v0, v1, v2, v3]⟩, _ =>
    obtain ⟨s0, rfl⟩ := (ha 0 22 _ rfl rfl).u64 Try.underlying22
    obtain ⟨t1, rfl, h1⟩ := (ha 1 9 _ rfl rfl).stringU Try.underlying9
    obtain ⟨n2, rfl, lo2, hi2⟩ := (ha 2 3 _ rfl rfl).i64 Try.underlying3
    obtain ⟨A3, l3, c3, rfl, h3a, h3b, h3c, h3u⟩ := (ha 3 23 _ rfl rfl).bytesU Try.underlying23 Try.underlying5 (by kernel_rfl) (by kernel_rfl)
    exact numBack_walk s0 t1 n2 l3 A3 c3 W h1 lo2 hi2 h3c h3a h3b h3u

set_option maxRecDepth 100000 in
theorem holds : Rows.NumBackUptoSaid :=
  OpenClaim.holds_of_cond 10 Try.f10 rfl rfl rfl rfl rfl rfl rfl ⟨rfl, rfl, rfl, rfl, rfl⟩ rfl rfl rfl rfl rfl (by kernel_rfl) Try.func10 (by kernel_rfl)
    (of_decide_eq_true (by kernel_rfl)) (by unfold Func.isWrapper; first | (rw [if_pos (by decide +kernel)]; kernel_rfl) | (rw [if_neg (by decide +kernel)]; exact ⟨rfl, rfl⟩))
    (fun os started H enc _ F => law_lifted_upto isLaw Try.func10 (by kernel_rfl) started F
      (OpenSpec.witness (enc := enc) (C := Try.checked) (s := Rows.OpenSpec.upto Rows.numBackSpec) (k := Rows.uptoSmall) rfl false ⟨#[], #[.int .u64 0, .string .empty, .int .i64 0, .slice none 0 0], []⟩ 8 (by kernel_rfl) (by kernel_rfl) (by kernel_rfl)
      (x := ([.lit (.int .u64 0), .lit (.string []), .lit (.int .i64 0), .nil], [], [])) (by kernel_rfl) rfl (by kernel_rfl)) contract)
#print axioms holds
end Go.Proofs.Ytbiinlkdgankkaa.numBackUpto
