/- wire.version. -/
import Derived.Test.YtkgacehnpdijaaaWireChk
import Derived.Test.YtkgacehnpdijaaaFrame
namespace Go.Proofs.Ytkgacehnpdijaaa
set_option linter.unusedVariables false
open Go.RowKit Wire

theorem size_list' (s : ByteArray) : s.data.toList.length = s.size := by rw [Array.length_toList]; rfl
set_option maxHeartbeats 4000000 in
set_option maxRecDepth 20000 in
theorem version_any (v : Vr) (w : World) : Calls Try.prog 32 #[.agg (vcs v).toArray] w fun e w' => e = .returned (.int .i64 (chkV v)) ∧ Below w.heap.size w w' := by
  obtain ⟨key, val, gone, ts, dc, tx⟩ := v
  show Calls _ _ #[.agg #[.string key, .string val, .bool gone, .int .u64 ts, .int .i64 dc, .int .i64 tx]] _ _
  obtain ⟨r, hr⟩ : ∃ r, chkV ⟨key, val, gone, ts, dc, tx⟩ = r := ⟨_, rfl⟩
  rw [hr]
  unfold chkV at hr
  simp only [size_list'] at hr
  have hq : Blk (w.alloc (.cells #[.string key, .string val, .bool gone, .int .u64 ts, .int .i64 dc, .int .i64 tx] 49)) w.heap.size 49 #[.string key, .string val, .bool gone, .int .u64 ts, .int .i64 dc, .int .i64 tx] := Blk.new _ _ _
  have hb : Below w.heap.size w (w.alloc (.cells #[.string key, .string val, .bool gone, .int .u64 ts, .int .i64 dc, .int .i64 tx] 49)) := (Below.refl _ _).alloc (Nat.le_refl _) _
  obtain ⟨w1, hw1⟩ : ∃ u, w.alloc (.cells #[.string key, .string val, .bool gone, .int .u64 ts, .int .i64 dc, .int .i64 tx] 49) = u := ⟨_, rfl⟩
  rw [hw1] at hq hb
  have c0 : w1.cell? ⟨w.heap.size, 0, none⟩ = some (.string key) := hq.cell 0
  have c1 : w1.cell? ⟨w.heap.size, 1, none⟩ = some (.string val) := hq.cell 1
  have c4 : w1.cell? ⟨w.heap.size, 4, none⟩ = some (.int .i64 dc) := hq.cell 4
  have c5 : w1.cell? ⟨w.heap.size, 5, none⟩ = some (.int .i64 tx) := hq.cell 5
  have hgl := hq.lt
  have HB := hide hb
  clear hq hb
  by_cases h1 : 16 < key.size
  · have f1 : (16 : Int) < (key.size : Int) := by omega
    rw [if_pos (.inl h1)] at hr
    subst hr
    clear h1
    go_enter Try.func32, Try.ntmps32
    go_wp2_with fail
    go_ret
    exact ⟨rfl, unhide HB⟩
  have f1 : ¬ (16 : Int) < (key.size : Int) := by omega
  by_cases h2 : 64 < val.size
  · have f2 : (64 : Int) < (val.size : Int) := by omega
    rw [if_pos (.inr h2)] at hr
    subst hr
    clear h1 h2
    go_enter Try.func32, Try.ntmps32
    go_wp2_with fail
    go_ret
    exact ⟨rfl, unhide HB⟩
  have f2 : ¬ (64 : Int) < (val.size : Int) := by omega
  rw [if_neg (by omega)] at hr
  clear h1 h2
  by_cases h3 : dc < 0
  · rw [if_pos (.inl h3)] at hr
    subst hr
    go_enter Try.func32, Try.ntmps32
    go_wp2_with fail
    go_ret
    exact ⟨rfl, unhide HB⟩
  by_cases h4 : 4 ≤ dc
  · rw [if_pos (.inr (.inl h4))] at hr
    subst hr
    go_enter Try.func32, Try.ntmps32
    go_wp2_with fail
    go_ret
    exact ⟨rfl, unhide HB⟩
  by_cases h5 : tx < 0
  · rw [if_pos (.inr (.inr (.inl h5)))] at hr
    subst hr
    go_enter Try.func32, Try.ntmps32
    go_wp2_with fail
    go_ret
    exact ⟨rfl, unhide HB⟩
  by_cases h6 : 1073741824 < tx
  · rw [if_pos (.inr (.inr (.inr h6)))] at hr
    subst hr
    go_enter Try.func32, Try.ntmps32
    go_wp2_with fail
    go_ret
    exact ⟨rfl, unhide HB⟩
  · rw [if_neg (by omega)] at hr
    subst hr
    go_enter Try.func32, Try.ntmps32
    go_wp2_with fail
    go_ret
    exact ⟨rfl, unhide HB⟩
end Go.Proofs.Ytkgacehnpdijaaa
