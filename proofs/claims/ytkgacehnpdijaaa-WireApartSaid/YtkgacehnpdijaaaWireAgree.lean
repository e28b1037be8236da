/- Modes and versions: Agree, Takes, of wire and of the document. -/
import Derived.Test.YtkgacehnpdijaaaWireNum
import Derived.WalkKit
namespace Go.Proofs.Ytkgacehnpdijaaa
set_option linter.unusedVariables false
set_option linter.unusedSimpArgs false
open Go.RowKit

def agreeOf (a b : Int) : Int := if (decide (a < 1) || decide (3 < a) || decide (b < 1) || decide (3 < b)) = true then 0 else if (a != 1 && b != 1) = true then 2 else if (a != 3 && b != 3) = true then 1 else 0
def takesOf (m v : Int) : Bool := ((m == 1 || m == 2) && v == 1) || ((m == 3 || m == 2) && v == 2)
def Tests (a : Int) (lo hi : Bool) : Prop := decide (a < 1) = lo ∧ decide (3 < a) = hi ∧ (a == 1) = false ∧ (a == 2) = false ∧ (a == 3) = false ∧ (a != 1) = true ∧ (a != 2) = true ∧ (a != 3) = true ∧ decide (2 ≤ a) = hi ∧ decide (a ≤ 2) = lo
theorem modes (a : Int) : Tests a true false ∨ a = 1 ∨ a = 2 ∨ a = 3 ∨ Tests a false true := by
  have h : a < 1 ∨ a = 1 ∨ a = 2 ∨ a = 3 ∨ 3 < a := by omega
  rcases h with h | h | h | h | h
  · refine .inl ⟨decide_eq_true h, decide_eq_false (by omega), beq_eq_false_iff_ne.2 (by omega), beq_eq_false_iff_ne.2 (by omega), beq_eq_false_iff_ne.2 (by omega), ?_, ?_, ?_, decide_eq_false (by omega), decide_eq_true (by omega)⟩ <;> (simp; omega)
  · exact .inr (.inl h)
  · exact .inr (.inr (.inl h))
  · exact .inr (.inr (.inr (.inl h)))
  · refine .inr (.inr (.inr (.inr ⟨decide_eq_false (by omega), decide_eq_true h, beq_eq_false_iff_ne.2 (by omega), beq_eq_false_iff_ne.2 (by omega), beq_eq_false_iff_ne.2 (by omega), ?_, ?_, ?_, decide_eq_true (by omega), decide_eq_false (by omega)⟩))) <;> (simp; omega)
set_option maxHeartbeats 4000000 in
theorem agree_any (a b : Int) (w : World) : Calls Try.prog 20 #[.int .i64 a, .int .i64 b] w fun e w' => e = .returned (.int .i64 (agreeOf a b)) ∧ w = w' := by
  rcases modes a with fa | rfl | rfl | rfl | fa
  all_goals rcases modes b with fb | rfl | rfl | rfl | fb
  all_goals
    try unfold Tests at fa
    try unfold Tests at fb
    go_enter Try.func20,Try.ntmps20
    go_wp2_with fail
    go_ret
    exact ⟨by simp [agreeOf, *], rfl⟩
set_option maxHeartbeats 4000000 in
theorem ragree_any (a b : Int) (w : World) : Calls Try.prog 21 #[.int .i64 a, .int .i64 b] w fun e w' => e = .returned (.int .i64 (agreeOf a b)) ∧ w = w' := by
  rcases modes a with fa | rfl | rfl | rfl | fa
  all_goals rcases modes b with fb | rfl | rfl | rfl | fb
  all_goals
    try unfold Tests at fa
    try unfold Tests at fb
    go_enter Try.func21,Try.ntmps21
    go_wp2_with fail
    go_ret
    exact ⟨by simp [agreeOf, *], rfl⟩
set_option maxHeartbeats 4000000 in
theorem takes_any (a b : Int) (w : World) : Calls Try.prog 22 #[.int .i64 a, .int .i64 b] w fun e w' => e = .returned (.bool (takesOf a b)) ∧ w = w' := by
  rcases modes a with fa | rfl | rfl | rfl | fa
  all_goals rcases modes b with fb | rfl | rfl | rfl | fb
  all_goals
    try unfold Tests at fa
    try unfold Tests at fb
    go_enter Try.func22,Try.ntmps22
    go_wp2_with fail
    go_ret
    exact ⟨by simp [takesOf, *], rfl⟩
set_option maxHeartbeats 4000000 in
theorem rtakes_any (a b : Int) (w : World) : Calls Try.prog 23 #[.int .i64 a, .int .i64 b] w fun e w' => e = .returned (.bool (takesOf a b)) ∧ w = w' := by
  by_cases hab : a = b
  · subst hab
    have g : (a == a) = true := beq_self_eq_true a
    rcases modes a with fa | rfl | rfl | rfl | fa
    all_goals
      try unfold Tests at fa
      go_enter Try.func23, Try.ntmps23
      go_wp2_with fail
      go_ret
      exact ⟨by simp [takesOf, *], rfl⟩
  · have g : (a == b) = false := beq_eq_false_iff_ne.2 hab
    rcases modes a with fa | rfl | rfl | rfl | fa
    all_goals rcases modes b with fb | rfl | rfl | rfl | fb
    all_goals first | exact absurd rfl hab | skip
    all_goals
      try unfold Tests at fa
      try unfold Tests at fb
      go_enter Try.func23, Try.ntmps23
      go_wp2_with fail
      go_ret
      exact ⟨by simp [takesOf, *], rfl⟩
theorem agreeOf_comm (a b : Int) : agreeOf a b = agreeOf b a := by
  rcases modes a with fa | rfl | rfl | rfl | fa
  all_goals rcases modes b with fb | rfl | rfl | rfl | fb
  all_goals
    try unfold Tests at fa
    try unfold Tests at fb
    simp [agreeOf, *]
/-- the law: where they agree both take it; where they don't none is that both take -/
theorem agreeOf_law (a b v : Int) : (agreeOf a b == 0 && !(takesOf a v && takesOf b v)) = true ∨ ((agreeOf a b == 0) = false ∧ takesOf a (agreeOf a b) = true ∧ takesOf b (agreeOf a b) = true) := by
  rcases modes v with fv | rfl | rfl | rfl | fv
  all_goals rcases modes a with fa | rfl | rfl | rfl | fa
  all_goals rcases modes b with fb | rfl | rfl | rfl | fb
  all_goals
    try unfold Tests at fa
    try unfold Tests at fb
    try unfold Tests at fv
    simp [agreeOf, takesOf, *]
end Go.Proofs.Ytkgacehnpdijaaa
