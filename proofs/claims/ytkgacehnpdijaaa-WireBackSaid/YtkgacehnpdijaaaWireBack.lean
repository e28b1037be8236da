/- WireBack: what is written of a message is read back, in both versions; with more behind it, or without its last byte, it is none. -/
import Derived.Test.YtkgacehnpdijaaaFrame
import Derived.Test.YtkgacehnpdijaaaWireLawG
namespace Go.Proofs.Ytkgacehnpdijaaa.wireBack
open Go.ChangeShapes Go.WideShapes Go.ChangeAt Go.RowKit
set_option linter.unusedVariables false

theorem isLaw : IsLaw Try.f7 Rows.wireBackSpec 4 where
  vars := rfl
  fn_ := fun H ds h => by
    match ds, h with
    | [d1, d2], _ => exact ⟨rfl, rfl, rfl⟩
  res := rfl
  bool_ := Try.underlying4
  read := by
    intro t ht
    have h : t ∈ [28, 5] := ht
    simp at h
    rcases h with rfl | rfl <;> exact ⟨by kernel_rfl, of_decide_eq_true (by kernel_rfl)⟩

theorem contract {H : Type} {enc : TypeId × Value → H} (W : World) (args : Array Value) (hn : args.size = Try.f7.params.size)
    (ha : ∀ (j : Nat) (t : TypeId) (v : Value), Try.f7.params[j]? = some t → args[j]? = some v → Came enc Try.prog W (fun _ => True) t v) :
    Calls Try.prog 7 args W fun e W' => e = .returned (.bool true) ∧ Below W.heap.size W W' := by
  match args, hn with
  | ⟨[v0, v1]⟩, _ =>
    have h0 := ha 0 28 _ rfl rfl
    have h1 := ha 1 5 _ rfl rfl
    exact by obtain ⟨q, rfl, hq⟩ := h0.msg; obtain ⟨m, A, c, vA, vc⟩ := q; obtain ⟨n3, rfl, w3⟩ := h1.int Try.underlying5; simp [Lit.wf, IntKind.min, IntKind.max, IntKind.signed, IntKind.bits] at w3; obtain ⟨s3, rfl⟩ : ∃ s : UInt8, n3 = (s.toNat : Int) := ⟨UInt8.ofNat n3.toNat, by rw [UInt8.toNat_ofNat']; omega⟩; exact wireBack_any m A c vA vc s3 W hq

set_option maxRecDepth 100000 in
theorem holds : Rows.WireBackSaid :=
  OpenClaim.holds_of_wide 7 Try.f7 rfl rfl rfl rfl rfl rfl rfl ⟨rfl, rfl, rfl, rfl, rfl⟩ rfl rfl rfl rfl rfl (by kernel_rfl) Try.func7 (by kernel_rfl)
    (of_decide_eq_true (by kernel_rfl)) (by unfold Func.isWrapper; first | (rw [if_pos (by decide +kernel)]; kernel_rfl) | (rw [if_neg (by decide +kernel)]; exact ⟨rfl, rfl⟩))
    (fun os started H enc _ => law_lifted isLaw Try.func7 (by kernel_rfl) started
      (ChangeSpec.witness6 (enc := enc) (C := Try.checked) false ⟨#[], #[.agg #[.int .i64 0, .int .u64 0, .int .u64 0, .int .u64 0, .string .empty, .string .empty, .slice none 0 0, .slice none 0 0, .int .i64 0, .int .i64 0, .int .i64 0, .int .i64 0, .int .i64 0, .string .empty], .int .u8 0], []⟩ 8 (by kernel_rfl) (by kernel_rfl) (by kernel_rfl) (by kernel_rfl)) contract)
#print axioms holds
end Go.Proofs.Ytkgacehnpdijaaa.wireBack
