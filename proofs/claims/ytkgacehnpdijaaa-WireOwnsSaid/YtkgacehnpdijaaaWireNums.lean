/- A command's numbers. -/
import Derived.Test.YtkgacehnpdijaaaWireVersion
import Derived.Test.YtkgacehnpdijaaaKnown
namespace Go.Proofs.Ytkgacehnpdijaaa
set_option linter.unusedVariables false
open Go.RowKit Wire

def cmdCells (c : Cm) : Array Value := #[.int .i64 c.kind, .int .i64 c.dc, .int .i64 c.shard, .int .i64 c.node, .int .i64 c.mode, .string c.key]
def numCells (c : Cm) : Array Value := #[.int .i64 c.kind, .int .i64 c.dc, .int .i64 c.shard, .int .i64 c.node, .int .i64 c.mode]
set_option maxHeartbeats 1000000 in
theorem numbers_any (c : Cm) (w : World) : Calls Try.prog 33 #[.agg (cmdCells c)] w fun e w' => e = .returned (.agg (numCells c)) ∧ Below w.heap.size w w' := by
  obtain ⟨k0, k1, k2, k3, k4, k5⟩ := c
  have HM0 := hide (((Mem.start w).new (t := 26) (cs := #[.int .i64 k0, .int .i64 k1, .int .i64 k2, .int .i64 k3, .int .i64 k4, .string k5]) w.heap.size rfl).new (t := 54) (cs := #[.int .i64 k0, .int .i64 k1, .int .i64 k2, .int .i64 k3, .int .i64 k4]) (w.heap.size + 1) (by simp))
  show Calls _ _ #[.agg #[.int .i64 k0, .int .i64 k1, .int .i64 k2, .int .i64 k3, .int .i64 k4, .string k5]] _ _
  go_enter Try.func33, Try.ntmps33
  go_wp2_with fail
  exact bodyPost_ret (results_cell_row rfl _ _ (w.heap.size + 1) 54 _ (0, 0) _ rfl (unhide HM0).blk0 Try.underlying54 rfl (by kernel_rfl)) rfl ⟨rfl, (unhide HM0).below⟩
set_option maxHeartbeats 1000000 in
theorem rnums_any (c : Cm) (w : World) : Calls Try.prog 34 #[.agg (cmdCells c)] w fun e w' => ∃ g, e = .returned (.slice (some ⟨g, 0, none⟩) 5 5) ∧ Blk w' g 3 (numCells c) ∧ Below w.heap.size w w' := by
  obtain ⟨k0, k1, k2, k3, k4, k5⟩ := c
  have HM0 := hide (((Mem.start w).new (t := 26) (cs := #[.int .i64 k0, .int .i64 k1, .int .i64 k2, .int .i64 k3, .int .i64 k4, .string k5]) w.heap.size rfl).new (t := 3) (cs := #[.int .i64 k0, .int .i64 k1, .int .i64 k2, .int .i64 k3, .int .i64 k4]) (w.heap.size + 1) (by simp))
  show Calls _ _ #[.agg #[.int .i64 k0, .int .i64 k1, .int .i64 k2, .int .i64 k3, .int .i64 k4, .string k5]] _ _
  go_enter Try.func34, Try.ntmps34
  go_wp2_with fail
  go_ret
  exact ⟨_, rfl, (unhide HM0).blk0, (unhide HM0).below⟩
end Go.Proofs.Ytkgacehnpdijaaa
