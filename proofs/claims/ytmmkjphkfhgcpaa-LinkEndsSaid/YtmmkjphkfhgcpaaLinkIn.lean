/- link.In of any end. -/
import Derived.Test.YtmmkjphkfhgcpaaLinkOutQ
import Derived.Test.YtmmkjphkfhgcpaaLinkFrame
namespace Go.Proofs.Ytmmkjphkfhgcpaa
set_option linter.unusedVariables false
open Go.RowKit

theorem kpl_look {w : World} {m n : Nat} {M : Int → Option Body} (h : Kpl w m n M) {a : Int} (h1 : -9223372036854775808 ≤ a) (h2 : a ≤ 9223372036854775807) :
    (Instr.lookup 62 (.map (some m)) (.int .i64 a) true).run Try.prog w = .ok (.tuple #[((M a).map bv).getD (.slice none 0 0), .bool ((M a).map bv).isSome]) w :=
  Kp.look h Try.underlying3 Try.underlying62 (fun w => rfl) (by simp [Lit.wf, IntKind.min, IntKind.max, IntKind.signed, IntKind.bits]; omega)

set_option maxHeartbeats 4000000 in
set_option maxRecDepth 20000 in
theorem in_refused1 (p : Nat) (ep sent got : Int) (Aw : Option Addr) (nw cw m : Nat) (v s a : Int) (A : Option Addr) (n c : Nat) (w : World) (hp : Blk w p 64 (endCells ep (.slice Aw nw cw) sent got m))
    (h0 : 0 ≤ sent) (h1 : sent ≤ 1099511627776) (hnw : nw ≤ 4096) (ha : a ≤ 9223372036854775807)
    (ha0 : a < 0) :
    Calls Try.prog 14 #[.pointer (some ⟨p, 0, none⟩), .agg #[.int .i64 v, .int .i64 ep, .int .i64 s, .int .i64 a, .slice A n c]] w fun e w' => e = .returned (.tuple #[.slice none 0 0, .int .i64 1]) ∧ Below w.heap.size w w' := by
  have HM0 := hide ((Mem.start w).new (t := 31) (cs := #[.int .i64 v, .int .i64 ep, .int .i64 s, .int .i64 a, .slice A n c]) w.heap.size rfl)
  have fc := endAt (hp.alloc (.cells #[.int .i64 v, .int .i64 ep, .int .i64 s, .int .i64 a, .slice A n c] 31))
  have fd := Lnk.cellsAt (unhide HM0).blk0
  clear hp
  go_enter Try.func14, Try.ntmps14
  go_wp2_with fail
  go_quiet (fail)
  go_wp2_with fail
  go_quiet (fail)
  all_goals go_wp2_with fail
  all_goals
    go_ret2
    first | exact ⟨rfl, below_drewN' (unhide HM0).below _⟩ | exact ⟨rfl, below_drewN' (below_drewN' (unhide HM0).below _) _⟩
set_option maxHeartbeats 4000000 in
set_option maxRecDepth 20000 in
theorem in_refused2 (p : Nat) (ep sent got : Int) (Aw : Option Addr) (nw cw m : Nat) (v s a : Int) (A : Option Addr) (n c : Nat) (w : World) (hp : Blk w p 64 (endCells ep (.slice Aw nw cw) sent got m))
    (h0 : 0 ≤ sent) (h1 : sent ≤ 1099511627776) (hnw : nw ≤ 4096) (ha : a ≤ 9223372036854775807)
    (ha0 : 0 ≤ a) (hs0 : s < 0) :
    Calls Try.prog 14 #[.pointer (some ⟨p, 0, none⟩), .agg #[.int .i64 v, .int .i64 ep, .int .i64 s, .int .i64 a, .slice A n c]] w fun e w' => e = .returned (.tuple #[.slice none 0 0, .int .i64 1]) ∧ Below w.heap.size w w' := by
  have HM0 := hide ((Mem.start w).new (t := 31) (cs := #[.int .i64 v, .int .i64 ep, .int .i64 s, .int .i64 a, .slice A n c]) w.heap.size rfl)
  have fc := endAt (hp.alloc (.cells #[.int .i64 v, .int .i64 ep, .int .i64 s, .int .i64 a, .slice A n c] 31))
  have fd := Lnk.cellsAt (unhide HM0).blk0
  clear hp
  have f1 : decide (a < 0) = false := decide_eq_false (by omega)
  go_enter Try.func14, Try.ntmps14
  go_wp2_with fail
  go_quiet (fail)
  go_wp2_with fail
  go_quiet (fail)
  all_goals go_wp2_with fail
  all_goals
    go_ret2
    first | exact ⟨rfl, below_drewN' (unhide HM0).below _⟩ | exact ⟨rfl, below_drewN' (below_drewN' (unhide HM0).below _) _⟩
set_option maxHeartbeats 4000000 in
set_option maxRecDepth 20000 in
theorem in_refused3 (p : Nat) (ep sent got : Int) (Aw : Option Addr) (nw cw m : Nat) (v s a : Int) (A : Option Addr) (n c : Nat) (w : World) (hp : Blk w p 64 (endCells ep (.slice Aw nw cw) sent got m))
    (h0 : 0 ≤ sent) (h1 : sent ≤ 1099511627776) (hnw : nw ≤ 4096) (ha : a ≤ 9223372036854775807)
    (ha0 : 0 ≤ a) (hs0 : 0 ≤ s) (W : Int) (hW : (if 16 < (nw : Int) then 16 else (nw : Int)) = W) (hlt : W < a - sent) :
    Calls Try.prog 14 #[.pointer (some ⟨p, 0, none⟩), .agg #[.int .i64 v, .int .i64 ep, .int .i64 s, .int .i64 a, .slice A n c]] w fun e w' => e = .returned (.tuple #[.slice none 0 0, .int .i64 1]) ∧ Below w.heap.size w w' := by
  have HM0 := hide ((Mem.start w).new (t := 31) (cs := #[.int .i64 v, .int .i64 ep, .int .i64 s, .int .i64 a, .slice A n c]) w.heap.size rfl)
  have fc := endAt (hp.alloc (.cells #[.int .i64 v, .int .i64 ep, .int .i64 s, .int .i64 a, .slice A n c] 31))
  have fd := Lnk.cellsAt (unhide HM0).blk0
  clear hp
  have f1 : decide (a < 0) = false := decide_eq_false (by omega)
  have f2 : decide (s < 0) = false := decide_eq_false (by omega)
  have hw1 : IntKind.i64.wrap (a - sent) = a - sent := by rw [IntKind.wrap_i64]; omega
  have f3 : decide (W < a - sent) = true := decide_eq_true hlt
  clear hlt
  go_enter Try.func14, Try.ntmps14
  go_wp2_with fail
  go_quiet (fail)
  go_wp2_with fail
  go_quiet (fail)
  all_goals go_wp2_with fail
  all_goals
    go_ret2
    first | exact ⟨rfl, below_drewN' (unhide HM0).below _⟩ | exact ⟨rfl, below_drewN' (below_drewN' (unhide HM0).below _) _⟩
end Go.Proofs.Ytmmkjphkfhgcpaa
