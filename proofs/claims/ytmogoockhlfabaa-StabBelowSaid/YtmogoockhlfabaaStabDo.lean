/- The calls of a script on a table; the wake; a nil table. -/
import Derived.Test.YtmogoockhlfabaaStabNew
namespace Go.Proofs.Ytmogoockhlfabaa
set_option linter.unusedVariables false
open Go.RowKit

def deed (s : Tb) (k a ep t : Int) : Tb × Int :=
  if k = 0 then (beaten s a t, 0) else if k = 1 then (gotten s a t, 0) else if k = 2 then (heard s a ep t, 0) else if k = 3 then joined s a ep else if k = 4 then parted s a ep else ({ s with st := max s.st t }, 0)
def opCells (k a ep t : Int) : Array Value := #[.int .i64 k, .int .i64 a, .int .i64 ep, .int .u64 t]
theorem opAt {w : World} {g : Nat} {ty : TypeId} {k a ep t : Int} (h : Blk w g ty (opCells k a ep t)) : w.cell? ⟨g, 0, none⟩ = some (.int .i64 k) ∧ w.cell? ⟨g, 1, none⟩ = some (.int .i64 a) ∧ w.cell? ⟨g, 2, none⟩ = some (.int .i64 ep) ∧ w.cell? ⟨g, 3, none⟩ = some (.int .u64 t) :=
  ⟨h.cell 0, h.cell 1, h.cell 2, h.cell 3⟩
theorem Own.mine {w w' : World} {p : Nat} {s : Tb} (h : Only (fun k => k = p) w w') : Only (Own p s) w w' := h.mono fun k _ hk => .inl hk

set_option maxHeartbeats 4000000 in
set_option maxRecDepth 20000 in
theorem do_any (B p : Nat) (s : Tb) (k a ep t : Int) (w : World) (h : TabAt w B p s) :
    Calls Try.prog 12 #[.pointer (some ⟨p, 0, none⟩), .agg (opCells k a ep t)] w fun e w' => e = .returned (.int .i64 (deed s k a ep t).2) ∧ TabAt w' B p (deed s k a ep t).1 ∧ Only (Own p s) w w' := by
  have hb0 := (Below.refl w.heap.size w).alloc (Nat.le_refl _) (.cells #[.int .i64 k, .int .i64 a, .int .i64 ep, .int .u64 t] 34)
  have HT := hide (h.new hb0)
  have fo := opAt (Blk.new w 34 (opCells k a ep t))
  have HB0 : Hid (Only (Own p s) w (w.alloc (.cells #[.int .i64 k, .int .i64 a, .int .i64 ep, .int .u64 t] 34))) := hide (Only.of_new hb0)
  have fo : (w.alloc (.cells #[.int .i64 k, .int .i64 a, .int .i64 ep, .int .u64 t] 34)).cell? ⟨w.heap.size, 0, none⟩ = some (.int .i64 k) ∧ (w.alloc (.cells #[.int .i64 k, .int .i64 a, .int .i64 ep, .int .u64 t] 34)).cell? ⟨w.heap.size, 1, none⟩ = some (.int .i64 a) ∧ (w.alloc (.cells #[.int .i64 k, .int .i64 a, .int .i64 ep, .int .u64 t] 34)).cell? ⟨w.heap.size, 2, none⟩ = some (.int .i64 ep) ∧ (w.alloc (.cells #[.int .i64 k, .int .i64 a, .int .i64 ep, .int .u64 t] 34)).cell? ⟨w.heap.size, 3, none⟩ = some (.int .u64 t) := fo
  clear h hb0
  show Calls Try.prog 12 #[.pointer (some ⟨p, 0, none⟩), .agg #[.int .i64 k, .int .i64 a, .int .i64 ep, .int .u64 t]] w _
  unfold deed
  by_cases h0 : k = 0
  · rw [if_pos h0]
    have f0 : (k == 0) = true := beq_iff_eq.2 h0
    clear h0
    go_enter Try.func12, Try.ntmps12
    go_wp2_with (go_at_call 14; refine (beat_any B p s a t _ (unhide HT)).mono ?_; rintro _ w2 ⟨rfl, ht2, ho2⟩)
    go_ret
    exact ⟨rfl, ht2, (unhide HB0).trans ho2⟩
  have f0 : (k == 0) = false := beq_eq_false_iff_ne.2 h0
  rw [if_neg h0]
  by_cases h1 : k = 1
  · rw [if_pos h1]
    have f1 : (k == 1) = true := beq_iff_eq.2 h1
    clear h0 h1
    go_enter Try.func12, Try.ntmps12
    go_wp2_with (go_at_call 15; refine (got_any B p s a t _ (unhide HT)).mono ?_; rintro _ w2 ⟨rfl, ht2, ho2⟩)
    go_ret
    exact ⟨rfl, ht2, (unhide HB0).trans (Own.mine ho2)⟩
  have f1 : (k == 1) = false := beq_eq_false_iff_ne.2 h1
  rw [if_neg h1]
  by_cases h2 : k = 2
  · rw [if_pos h2]
    have f2 : (k == 2) = true := beq_iff_eq.2 h2
    clear h0 h1 h2
    go_enter Try.func12, Try.ntmps12
    go_wp2_with (go_at_call 16; refine (told_any B p s a ep t _ (unhide HT)).mono ?_; rintro _ w2 ⟨rfl, ht2, ho2⟩)
    go_ret
    exact ⟨rfl, ht2, (unhide HB0).trans (Own.mine ho2)⟩
  have f2 : (k == 2) = false := beq_eq_false_iff_ne.2 h2
  rw [if_neg h2]
  by_cases h3 : k = 3
  · rw [if_pos h3]
    have f3 : (k == 3) = true := beq_iff_eq.2 h3
    clear h0 h1 h2 h3
    go_enter Try.func12, Try.ntmps12
    go_wp2_with (go_at_call 19; refine (join_any B p s a ep _ (unhide HT)).mono ?_; rintro _ w2 ⟨rfl, ht2, ho2⟩)
    go_ret
    exact ⟨rfl, ht2, (unhide HB0).trans (Own.mine ho2)⟩
  have f3 : (k == 3) = false := beq_eq_false_iff_ne.2 h3
  rw [if_neg h3]
  by_cases h4 : k = 4
  · rw [if_pos h4]
    have f4 : (k == 4) = true := beq_iff_eq.2 h4
    clear h0 h1 h2 h3 h4
    go_enter Try.func12, Try.ntmps12
    go_wp2_with (go_at_call 20; refine (leave_any B p s a ep _ (unhide HT)).mono ?_; rintro _ w2 ⟨rfl, ht2, ho2⟩)
    go_ret
    exact ⟨rfl, ht2, (unhide HB0).trans (Own.mine ho2)⟩
  have f4 : (k == 4) = false := beq_eq_false_iff_ne.2 h4
  rw [if_neg h4]
  clear h0 h1 h2 h3 h4
  go_enter Try.func12, Try.ntmps12
  go_wp2_with (go_at_call 21; refine (lift_any B p s t _ (unhide HT)).mono ?_; rintro _ w2 ⟨rfl, ht2, ho2⟩)
  go_ret
  exact ⟨rfl, ht2, (unhide HB0).trans (Own.mine ho2)⟩

set_option maxHeartbeats 4000000 in
set_option maxRecDepth 20000 in
theorem do_nil (k a ep t : Int) (w : World) :
    Calls Try.prog 12 #[.pointer none, .agg (opCells k a ep t)] w fun e w' => e = .returned (.int .i64 (if k = 3 ∨ k = 4 then 1 else 0)) ∧ Below w.heap.size w w' := by
  have HB0 := hide ((Below.refl w.heap.size w).alloc (Nat.le_refl _) (.cells #[.int .i64 k, .int .i64 a, .int .i64 ep, .int .u64 t] 34))
  have fo := opAt (Blk.new w 34 (opCells k a ep t))
  have fo : (w.alloc (.cells #[.int .i64 k, .int .i64 a, .int .i64 ep, .int .u64 t] 34)).cell? ⟨w.heap.size, 0, none⟩ = some (.int .i64 k) ∧ (w.alloc (.cells #[.int .i64 k, .int .i64 a, .int .i64 ep, .int .u64 t] 34)).cell? ⟨w.heap.size, 1, none⟩ = some (.int .i64 a) ∧ (w.alloc (.cells #[.int .i64 k, .int .i64 a, .int .i64 ep, .int .u64 t] 34)).cell? ⟨w.heap.size, 2, none⟩ = some (.int .i64 ep) ∧ (w.alloc (.cells #[.int .i64 k, .int .i64 a, .int .i64 ep, .int .u64 t] 34)).cell? ⟨w.heap.size, 3, none⟩ = some (.int .u64 t) := fo
  show Calls Try.prog 12 #[.pointer none, .agg #[.int .i64 k, .int .i64 a, .int .i64 ep, .int .u64 t]] w _
  by_cases h34 : k = 3 ∨ k = 4
  · rw [if_pos h34]
    rcases h34 with rfl | rfl
    all_goals
      go_enter Try.func12, Try.ntmps12
      go_wp2_with (first
        | (go_at_call 19; refine (join_nil a ep t _).mono ?_; rintro _ w2 ⟨rfl, hb2⟩)
        | (go_at_call 20; refine (leave_nil a ep t _).mono ?_; rintro _ w2 ⟨rfl, hb2⟩))
      go_ret
      exact ⟨rfl, (unhide HB0).trans (hb2.mono (unhide HB0).size)⟩
  · rw [if_neg h34]
    have f3 : (k == 3) = false := beq_eq_false_iff_ne.2 (fun e => h34 (.inl e))
    have f4 : (k == 4) = false := beq_eq_false_iff_ne.2 (fun e => h34 (.inr e))
    clear h34
    rcases hk0 : (k == 0) with _ | _
    rcases hk1 : (k == 1) with _ | _
    rcases hk2 : (k == 2) with _ | _
    all_goals
      go_enter Try.func12, Try.ntmps12
      go_wp2_with (first
        | (go_at_call 14; refine (beat_nil a ep t _).mono ?_; rintro _ w2 ⟨rfl, hb2⟩)
        | (go_at_call 15; refine (got_nil a ep t _).mono ?_; rintro _ w2 ⟨rfl, hb2⟩)
        | (go_at_call 16; refine (told_nil a ep t _).mono ?_; rintro _ w2 ⟨rfl, hb2⟩)
        | (go_at_call 21; refine (lift_nil a ep t _).mono ?_; rintro _ w2 ⟨rfl, hb2⟩))
      go_ret
      exact ⟨rfl, (unhide HB0).trans (hb2.mono (unhide HB0).size)⟩
end Go.Proofs.Ytmogoockhlfabaa
