/- wire.Check and what the wake of wire's statements takes. -/
import Derived.Test.YtkgacehnpdijaaaWireAgree
import Derived.Test.YtkgacehnpdijaaaKnown
namespace Go.Proofs.Ytkgacehnpdijaaa
set_option linter.unusedVariables false
open Go.RowKit

abbrev eS : Value := .string ⟨#[]⟩
abbrev cmd0 : Array Value := #[.int .i64 0, .int .i64 0, .int .i64 0, .int .i64 0, .int .i64 0, eS]
abbrev msg5 : Array Value := #[.int .i64 12, .int .u64 5, .int .u64 0, .int .u64 0, eS, eS, .slice none 0 0, .slice none 0 0, .int .i64 0, .int .i64 0, .int .i64 0, .int .i64 0, .int .i64 0, eS]
theorem msgAt {w : World} {g : Nat} {ty : TypeId} (h : Blk w g ty msg5) :
    w.cell? ⟨g, 0, none⟩ = some (.int .i64 12) ∧ w.cell? ⟨g, 1, none⟩ = some (.int .u64 5) ∧ w.cell? ⟨g, 2, none⟩ = some (.int .u64 0) ∧ w.cell? ⟨g, 3, none⟩ = some (.int .u64 0) ∧ w.cell? ⟨g, 4, none⟩ = some eS ∧ w.cell? ⟨g, 5, none⟩ = some eS ∧ w.cell? ⟨g, 6, none⟩ = some (.slice none 0 0) ∧ w.cell? ⟨g, 7, none⟩ = some (.slice none 0 0) ∧
    w.cell? ⟨g, 8, none⟩ = some (.int .i64 0) ∧ w.cell? ⟨g, 9, none⟩ = some (.int .i64 0) ∧ w.cell? ⟨g, 10, none⟩ = some (.int .i64 0) ∧ w.cell? ⟨g, 11, none⟩ = some (.int .i64 0) ∧ w.cell? ⟨g, 12, none⟩ = some (.int .i64 0) ∧ w.cell? ⟨g, 13, none⟩ = some eS :=
  ⟨h.cell 0, h.cell 1, h.cell 2, h.cell 3, h.cell 4, h.cell 5, h.cell 6, h.cell 7, h.cell 8, h.cell 9, h.cell 10, h.cell 11, h.cell 12, h.cell 13⟩
theorem bit_any (b : Bool) (w : World) : Calls Try.prog 48 #[.bool b] w fun e w' => e = .returned (.int .u64 (if b then 1 else 0)) ∧ w = w' := by
  cases b
  all_goals
    go_enter Try.func48, Try.ntmps48
    go_wp2_with fail
    go_ret
    exact ⟨rfl, rfl⟩
set_option maxHeartbeats 1000000 in
theorem numbers_done (w : World) : Calls Try.prog 33 #[.agg cmd0] w fun e w' => e = .returned (.agg #[.int .i64 0, .int .i64 0, .int .i64 0, .int .i64 0, .int .i64 0]) ∧ Below w.heap.size w w' := by
  have HM0 := hide (((Mem.start w).new (t := 26) (cs := cmd0) w.heap.size rfl).new (t := 54) (cs := #[.int .i64 0, .int .i64 0, .int .i64 0, .int .i64 0, .int .i64 0]) (w.heap.size + 1) (by simp))
  show Calls _ _ #[.agg #[.int .i64 0, .int .i64 0, .int .i64 0, .int .i64 0, .int .i64 0, eS]] _ _
  go_enter Try.func33, Try.ntmps33
  go_wp2_with fail
  exact bodyPost_ret (results_cell_row rfl _ _ (w.heap.size + 1) 54 _ (0, 0) _ rfl (unhide HM0).blk0 Try.underlying54 rfl (by kernel_rfl)) rfl ⟨rfl, (unhide HM0).below⟩
set_option maxHeartbeats 1000000 in
set_option maxRecDepth 20000 in
theorem check_done (w : World) : Calls Try.prog 17 #[.agg msg5] w fun e w' => e = .returned (.int .i64 0) ∧ Below w.heap.size w w' := by
  have HM0 := hide ((Mem.start w).new (t := 28) (cs := msg5) w.heap.size rfl)
  obtain ⟨w1, hw1⟩ : ∃ u, w.alloc (.cells msg5 28) = u := ⟨_, rfl⟩
  rw [hw1] at HM0
  have fm := msgAt (unhide HM0).blk0
  have HN := hide (fun u => numbers_done u)
  show Calls _ _ #[.agg #[.int .i64 12, .int .u64 5, .int .u64 0, .int .u64 0, eS, eS, .slice none 0 0, .slice none 0 0, .int .i64 0, .int .i64 0, .int .i64 0, .int .i64 0, .int .i64 0, eS]] _ _
  go_enter Try.func17, Try.ntmps17
  go_wp2_with fail
  go_loopw [35] (fun i wr => i = .int .i64 0 ∧ w1 = wr) (fun i _ => 0)
  case atStart => exact ⟨rfl, rfl⟩
  case round =>
    obtain ⟨rfl, rfl⟩ := hrel
    go_wp2_with (go_at_call 33; refine (unhide HN _).mono ?_; rintro _ w2 ⟨rfl, hb2⟩; have HM2 := hide ((unhide HM0).called hb2); have fm2 := msgAt (unhide HM2).blk0; clear hb2)
    have hi0 : (Instr.index 54 (.agg #[.int .i64 0, .int .i64 0, .int .i64 0, .int .i64 0, .int .i64 0]) (.int .i64 0)).run Try.prog w2 = .ok (.int .i64 0) w2 := by kernel_rfl
    have hi1 : (Instr.index 54 (.agg #[.int .i64 0, .int .i64 0, .int .i64 0, .int .i64 0, .int .i64 0]) (.int .i64 1)).run Try.prog w2 = .ok (.int .i64 0) w2 := by kernel_rfl
    have hi2 : (Instr.index 54 (.agg #[.int .i64 0, .int .i64 0, .int .i64 0, .int .i64 0, .int .i64 0]) (.int .i64 2)).run Try.prog w2 = .ok (.int .i64 0) w2 := by kernel_rfl
    have hi3 : (Instr.index 54 (.agg #[.int .i64 0, .int .i64 0, .int .i64 0, .int .i64 0, .int .i64 0]) (.int .i64 3)).run Try.prog w2 = .ok (.int .i64 0) w2 := by kernel_rfl
    have hi4 : (Instr.index 54 (.agg #[.int .i64 0, .int .i64 0, .int .i64 0, .int .i64 0, .int .i64 0]) (.int .i64 4)).run Try.prog w2 = .ok (.int .i64 0) w2 := by kernel_rfl
    go_loopw [52] (fun i wr => ∃ k : Nat, k ≤ 5 ∧ i = .int .i64 k ∧ w2 = wr) (fun i _ => 5 - (intOf i).toNat)
    case atStart => exact ⟨0, by omega, rfl, rfl⟩
    case round =>
      obtain ⟨k, hk, rfl, rfl⟩ := hrel
      by_cases h5 : k = 5
      · subst h5
        go_wp2_with fail
        go_ret
        exact ⟨rfl, (unhide HM2).below⟩
      · obtain rfl | rfl | rfl | rfl | rfl : k = 0 ∨ k = 1 ∨ k = 2 ∨ k = 3 ∨ k = 4 := by omega
        all_goals
          go_wp2_with fail
          go_roundw
        all_goals first | exact ⟨1, by omega, rfl, by first | rfl | trivial⟩ | exact ⟨2, by omega, rfl, by first | rfl | trivial⟩ | exact ⟨3, by omega, rfl, by first | rfl | trivial⟩ | exact ⟨4, by omega, rfl, by first | rfl | trivial⟩ | exact ⟨5, by omega, rfl, by first | rfl | trivial⟩ | (simp [intOf])
end Go.Proofs.Ytkgacehnpdijaaa
