/- Encode of the wake's message, the wake, and the walk of WireAgrees. -/
import Derived.Test.YtkgacehnpdijaaaWireAwake
namespace Go.Proofs.Ytkgacehnpdijaaa
set_option linter.unusedVariables false
open Go.RowKit

set_option maxHeartbeats 1000000 in
set_option maxRecDepth 20000 in
theorem encode_done (w : World) : Calls Try.prog 14 #[.int .i64 2, .agg msg5] w fun e w' => ∃ A c, e = .returned (.tuple #[.slice A 3 c, .int .i64 0]) ∧ RdB w' w'.heap.size A [12, 1, 5] ∧ Below w.heap.size w w' := by
  have HM0 := hide ((Mem.start w).new (t := 28) (cs := msg5) w.heap.size rfl)
  show Calls _ _ #[.int .i64 2, .agg #[.int .i64 12, .int .u64 5, .int .u64 0, .int .u64 0, .string ⟨#[]⟩, .string ⟨#[]⟩, .slice none 0 0, .slice none 0 0, .int .i64 0, .int .i64 0, .int .i64 0, .int .i64 0, .int .i64 0, .string ⟨#[]⟩]] _ _
  go_enter Try.func14, Try.ntmps14
  go_wp2_with (first
    | refine wpList_load_blk rfl 28 (.tmp 3) rfl (w.heap.size) rfl 28 _ _ ((unhide HM0).blk0) Try.underlying28 rfl (by kernel_rfl) ?_
    | refine wpList_load_blk rfl 28 (.tmp 3) rfl (w.heap.size) rfl 28 _ _ ((unhide HM1).blk0) Try.underlying28 rfl (by kernel_rfl) ?_
    | (go_at_call 17; refine (check_done _).mono ?_; rintro _ w1 ⟨rfl, hb1⟩; have HM1 := hide ((unhide HM0).called hb1); clear hb1)
    | (go_at_call 29; refine (newer_done _).mono ?_; rintro _ w2 ⟨A, c, rfl, ho2, hb2, hc2⟩; have HM2 := hide ((unhide HM1).called hb2); have HR2 := hide (RdB.of_own ho2); clear ho2 hb2 hc2))
  go_ret2
  exact ⟨A, c, rfl, unhide HR2, (unhide HM2).below⟩
set_option maxHeartbeats 1000000 in
set_option maxRecDepth 20000 in
theorem awake_any (w : World) : Calls Try.prog 13 #[] w fun e w' => e = .returned (.bool true) ∧ Below w.heap.size w w' := by
  go_enter Try.func13, Try.ntmps13
  go_wp2_with (go_at_call 14; refine (encode_done _).mono ?_; rintro _ w1 ⟨A, c, rfl, hr1, hb1⟩
               have HB := hide hb1; clear hb1
               have es : (convert 31 9 (.slice A 3 c)).run Try.prog w1 = .ok (.string ⟨#[12, 1, 5]⟩) w1 := run_str (P := Try.prog) c hr1 Try.underlying31 Try.underlying5 Try.underlying9
               clear hr1)
  go_ret
  exact ⟨rfl, unhide HB⟩

set_option maxHeartbeats 4000000 in
set_option maxRecDepth 20000 in
theorem wireAgrees_any (a b v : Int) (w : World) : Calls Try.prog 5 #[.int .i64 a, .int .i64 b, .int .i64 v] w fun e w' => e = .returned (.bool true) ∧ Below w.heap.size w w' := by
  have HL := hide (agreeOf_law a b v)
  obtain ⟨g, hg⟩ : ∃ g, agreeOf a b = g := ⟨_, rfl⟩
  have hg2 : agreeOf b a = g := (agreeOf_comm b a).trans hg
  obtain ⟨t0, ht0⟩ : ∃ t, takesOf a v = t := ⟨_, rfl⟩
  obtain ⟨t1, ht1⟩ : ∃ t, takesOf b v = t := ⟨_, rfl⟩
  obtain ⟨p0, hp0⟩ : ∃ t, takesOf a g = t := ⟨_, rfl⟩
  obtain ⟨p1, hp1⟩ : ∃ t, takesOf b g = t := ⟨_, rfl⟩
  have hl := unhide HL
  rw [hg, ht0, ht1, hp0, hp1] at hl
  clear HL
  have HG := hide hg; have HG2 := hide hg2; have H0 := hide ht0; have H1 := hide ht1; have P0 := hide hp0; have P1 := hide hp1
  clear hg hg2 ht0 ht1 hp0 hp1
  have hgg : (g != g) = false := by simp
  rcases hl with hl | ⟨hl, rfl, rfl⟩
  · rw [Bool.and_eq_true] at hl
    obtain ⟨e0, et⟩ := hl
    have e1 : (g != 0) = false := by simp only [bne, e0]; rfl
    cases t0
    all_goals cases t1
    all_goals first | exact absurd et (by decide) | skip
    all_goals
      clear et
      go_enter Try.func5, Try.ntmps5
      go_wp2_with (first
        | (go_at_call 20; with_reducible refine (agree_any a b _).mono ?_; rintro _ _ ⟨rfl, rfl⟩; rw [unhide HG])
        | (go_at_call 21; with_reducible refine (ragree_any a b _).mono ?_; rintro _ _ ⟨rfl, rfl⟩; rw [unhide HG])
        | (go_at_call 20; with_reducible refine (agree_any b a _).mono ?_; rintro _ _ ⟨rfl, rfl⟩; rw [unhide HG2])
        | (go_at_call 22; with_reducible refine (takes_any a v _).mono ?_; rintro _ _ ⟨rfl, rfl⟩; rw [unhide H0])
        | (go_at_call 22; with_reducible refine (takes_any b v _).mono ?_; rintro _ _ ⟨rfl, rfl⟩; rw [unhide H1])
        | (go_at_call 23; with_reducible refine (rtakes_any a v _).mono ?_; rintro _ _ ⟨rfl, rfl⟩; rw [unhide H0])
        | (go_at_call 13; refine (awake_any _).mono ?_; rintro _ w1 ⟨rfl, hb1⟩; have HB := hide hb1; clear hb1))
      go_ret
      exact ⟨rfl, unhide HB⟩
  · have e1 : (g != 0) = true := by simp only [bne, hl]; rfl
    cases t0
    all_goals cases t1
    all_goals
      go_enter Try.func5, Try.ntmps5
      go_wp2_with (first
        | (go_at_call 20; with_reducible refine (agree_any a b _).mono ?_; rintro _ _ ⟨rfl, rfl⟩; rw [unhide HG])
        | (go_at_call 21; with_reducible refine (ragree_any a b _).mono ?_; rintro _ _ ⟨rfl, rfl⟩; rw [unhide HG])
        | (go_at_call 20; with_reducible refine (agree_any b a _).mono ?_; rintro _ _ ⟨rfl, rfl⟩; rw [unhide HG2])
        | (go_at_call 22; with_reducible refine (takes_any a v _).mono ?_; rintro _ _ ⟨rfl, rfl⟩; rw [unhide H0])
        | (go_at_call 22; with_reducible refine (takes_any b v _).mono ?_; rintro _ _ ⟨rfl, rfl⟩; rw [unhide H1])
        | (go_at_call 22; with_reducible refine (takes_any a g _).mono ?_; rintro _ _ ⟨rfl, rfl⟩; rw [unhide P0])
        | (go_at_call 22; with_reducible refine (takes_any b g _).mono ?_; rintro _ _ ⟨rfl, rfl⟩; rw [unhide P1])
        | (go_at_call 23; with_reducible refine (rtakes_any a v _).mono ?_; rintro _ _ ⟨rfl, rfl⟩; rw [unhide H0])
        | (go_at_call 13; refine (awake_any _).mono ?_; rintro _ w1 ⟨rfl, hb1⟩; have HB := hide hb1; clear hb1))
      go_ret
      exact ⟨rfl, unhide HB⟩
end Go.Proofs.Ytkgacehnpdijaaa
