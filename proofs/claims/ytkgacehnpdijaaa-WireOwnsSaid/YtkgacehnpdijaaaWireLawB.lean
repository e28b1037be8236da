/- great; the walk of WireEncodes. -/
import Derived.Test.YtkgacehnpdijaaaWireEnc
import Derived.Test.YtkgacehnpdijaaaWireWake
import Derived.Test.YtkgacehnpdijaaaFrame
namespace Go.Proofs.Ytkgacehnpdijaaa
set_option linter.unusedVariables false
set_option linter.unusedSimpArgs false
open Go.RowKit

def greatB (m : Wire.Ms) : Bool := decide (6000 < m.vers.length) || decide (6000 < m.vec.length)
set_option maxHeartbeats 2000000 in
theorem great_any (m : Wire.Ms) (A : Option Addr) (c : Nat) (vA : Option Addr) (vc : Nat) (w : World) : Calls Try.prog 12 #[.agg (mcells m A c vA vc)] w fun e w' => e = .returned (.bool (greatB m)) ∧ Below w.heap.size w w' := by
  have HM0 := hide ((Mem.start w).new (t := 28) (cs := mcells m A c vA vc) w.heap.size rfl)
  obtain ⟨w1, hw1⟩ : ∃ u, w.alloc (.cells (mcells m A c vA vc) 28) = u := ⟨_, rfl⟩
  rw [hw1] at HM0
  obtain ⟨f0, f1, f2, f3, f4, f5, f6, f7, f8, f9, f10, f11, f12, f13⟩ := mAt (unhide HM0).blk0
  show Calls _ _ #[.agg #[.int .i64 m.kind, .int .u64 m.id, .int .u64 m.n, .int .u64 m.ts, .string m.lo, .string m.hi, .slice A m.vers.length c, .slice vA m.vec.length vc, .int .i64 m.cmd.kind, .int .i64 m.cmd.dc, .int .i64 m.cmd.shard, .int .i64 m.cmd.node, .int .i64 m.cmd.mode, .string m.cmd.key]] _ _
  obtain ⟨r, hr⟩ : ∃ r, greatB m = r := ⟨_, rfl⟩
  rw [hr]
  unfold greatB at hr
  by_cases h1 : 6000 < m.vers.length
  · have g1 : (6000 : Int) < (m.vers.length : Int) := by omega
    obtain rfl : true = r := by rw [← hr]; simp [h1]
    clear hr h1
    go_enter Try.func12, Try.ntmps12
    go_wp2_with fail
    go_ret
    exact ⟨rfl, (unhide HM0).below⟩
  have g1 : ¬ (6000 : Int) < (m.vers.length : Int) := by omega
  by_cases h2 : 6000 < m.vec.length
  · have g2 : (6000 : Int) < (m.vec.length : Int) := by omega
    obtain rfl : true = r := by rw [← hr]; simp [h2]
    clear hr h1 h2
    go_enter Try.func12, Try.ntmps12
    go_wp2_with fail
    go_ret
    exact ⟨rfl, (unhide HM0).below⟩
  · have g2 : ¬ (6000 : Int) < (m.vec.length : Int) := by omega
    obtain rfl : false = r := by rw [← hr]; simp; omega
    clear hr h1 h2
    go_enter Try.func12, Try.ntmps12
    go_wp2_with fail
    go_ret
    exact ⟨rfl, (unhide HM0).below⟩
/-- a message's fourteen cells, as one fact -/
abbrev MA (m : Wire.Ms) (A : Option Addr) (c : Nat) (vA : Option Addr) (vc g : Nat) (u : World) : Prop :=
  u.cell? ⟨g, 0, none⟩ = some (.int .i64 m.kind) ∧ u.cell? ⟨g, 1, none⟩ = some (.int .u64 m.id) ∧ u.cell? ⟨g, 2, none⟩ = some (.int .u64 m.n) ∧ u.cell? ⟨g, 3, none⟩ = some (.int .u64 m.ts) ∧ u.cell? ⟨g, 4, none⟩ = some (.string m.lo) ∧ u.cell? ⟨g, 5, none⟩ = some (.string m.hi) ∧ u.cell? ⟨g, 6, none⟩ = some (.slice A m.vers.length c) ∧ u.cell? ⟨g, 7, none⟩ = some (.slice vA m.vec.length vc) ∧
    u.cell? ⟨g, 8, none⟩ = some (.int .i64 m.cmd.kind) ∧ u.cell? ⟨g, 9, none⟩ = some (.int .i64 m.cmd.dc) ∧ u.cell? ⟨g, 10, none⟩ = some (.int .i64 m.cmd.shard) ∧ u.cell? ⟨g, 11, none⟩ = some (.int .i64 m.cmd.node) ∧ u.cell? ⟨g, 12, none⟩ = some (.int .i64 m.cmd.mode) ∧ u.cell? ⟨g, 13, none⟩ = some (.string m.cmd.key)
set_option maxHeartbeats 8000000 in
set_option maxRecDepth 20000 in
theorem wireEncodes_any (v : Int) (m : Wire.Ms) (A : Option Addr) (c : Nat) (vA : Option Addr) (vc : Nat) (w : World) (hok : Mq.Ok ⟨m, A, c, vA, vc⟩ w w.heap.size) : Calls Try.prog 3 #[.int .i64 v, .agg (mcells m A c vA vc)] w fun e w' => e = .returned (.bool true) ∧ Below w.heap.size w w' := by
  have HM0 := hide ((Mem.start w).new (t := 28) (cs := mcells m A c vA vc) w.heap.size rfl)
  obtain ⟨w1, hw1⟩ : ∃ u, w.alloc (.cells (mcells m A c vA vc) 28) = u := ⟨_, rfl⟩
  obtain ⟨g, hgs⟩ : ∃ g, w.heap.size = g := ⟨_, rfl⟩
  rw [hw1] at HM0
  rw [hgs] at HM0
  have HOK := hide hok
  have HGS := hide hgs
  have HGR : Hid (∀ u, Calls Try.prog 12 #[.agg #[.int .i64 m.kind, .int .u64 m.id, .int .u64 m.n, .int .u64 m.ts, .string m.lo, .string m.hi, .slice A m.vers.length c, .slice vA m.vec.length vc, .int .i64 m.cmd.kind, .int .i64 m.cmd.dc, .int .i64 m.cmd.shard, .int .i64 m.cmd.node, .int .i64 m.cmd.mode, .string m.cmd.key]] u fun e w' => e = .returned (.bool (greatB m)) ∧ Below u.heap.size u w') := fun u => great_any m A c vA vc u
  clear hok
  show Calls _ _ #[.int .i64 v, .agg #[.int .i64 m.kind, .int .u64 m.id, .int .u64 m.n, .int .u64 m.ts, .string m.lo, .string m.hi, .slice A m.vers.length c, .slice vA m.vec.length vc, .int .i64 m.cmd.kind, .int .i64 m.cmd.dc, .int .i64 m.cmd.shard, .int .i64 m.cmd.node, .int .i64 m.cmd.mode, .string m.cmd.key]] _ _
  obtain ⟨gr, hgr⟩ : ∃ r, greatB m = r := ⟨_, rfl⟩
  rw [hgr] at HGR
  clear hgr
  cases gr
  · have HEN : Hid (∀ u, Mq.Ok ⟨m, A, c, vA, vc⟩ u g → g ≤ u.heap.size → Calls Try.prog 14 #[.int .i64 v, .agg #[.int .i64 m.kind, .int .u64 m.id, .int .u64 m.n, .int .u64 m.ts, .string m.lo, .string m.hi, .slice A m.vers.length c, .slice vA m.vec.length vc, .int .i64 m.cmd.kind, .int .i64 m.cmd.dc, .int .i64 m.cmd.shard, .int .i64 m.cmd.node, .int .i64 m.cmd.mode, .string m.cmd.key]] u (EncRes v m u)) := fun u h1 h2 => encode_any v m A c vA vc g u h1 h2
    have HRN : Hid (∀ u, Mq.Ok ⟨m, A, c, vA, vc⟩ u g → g ≤ u.heap.size → Calls Try.prog 15 #[.int .i64 v, .agg #[.int .i64 m.kind, .int .u64 m.id, .int .u64 m.n, .int .u64 m.ts, .string m.lo, .string m.hi, .slice A m.vers.length c, .slice vA m.vec.length vc, .int .i64 m.cmd.kind, .int .i64 m.cmd.dc, .int .i64 m.cmd.shard, .int .i64 m.cmd.node, .int .i64 m.cmd.mode, .string m.cmd.key]] u (EncRes v m u)) := fun u h1 h2 => rencode_any v m A c vA vc g u h1 h2
    have HCK : Hid (∀ u, Mq.Ok ⟨m, A, c, vA, vc⟩ u g → g ≤ u.heap.size → Calls Try.prog 17 #[.agg #[.int .i64 m.kind, .int .u64 m.id, .int .u64 m.n, .int .u64 m.ts, .string m.lo, .string m.hi, .slice A m.vers.length c, .slice vA m.vec.length vc, .int .i64 m.cmd.kind, .int .i64 m.cmd.dc, .int .i64 m.cmd.shard, .int .i64 m.cmd.node, .int .i64 m.cmd.mode, .string m.cmd.key]] u fun e w' => e = .returned (.int .i64 (Wire.chkOf m)) ∧ Below u.heap.size u w') := fun u h1 h2 => check_any m A c vA vc g u h1 h2
    have HRC : Hid (∀ u, Mq.Ok ⟨m, A, c, vA, vc⟩ u g → g ≤ u.heap.size → Calls Try.prog 18 #[.agg #[.int .i64 m.kind, .int .u64 m.id, .int .u64 m.n, .int .u64 m.ts, .string m.lo, .string m.hi, .slice A m.vers.length c, .slice vA m.vec.length vc, .int .i64 m.cmd.kind, .int .i64 m.cmd.dc, .int .i64 m.cmd.shard, .int .i64 m.cmd.node, .int .i64 m.cmd.mode, .string m.cmd.key]] u fun e w' => e = .returned (.int .i64 (Wire.chkOf m)) ∧ Below u.heap.size u w') := fun u h1 h2 => rcheck_any m A c vA vc g u h1 h2
    go_enter Try.func3, Try.ntmps3
    go_upto_region 5 with (first
      | refine wpList_load_blk rfl 28 (.tmp 3) rfl (g) rfl 28 _ _ ((unhide HM0).blk0) Try.underlying28 rfl (by kernel_rfl) ?_
      | refine wpList_load_blk rfl 28 (.tmp 3) rfl (g) rfl 28 _ _ ((unhide HM1).blk0) Try.underlying28 rfl (by kernel_rfl) ?_
      | refine wpList_load_blk rfl 28 (.tmp 3) rfl (g) rfl 28 _ _ ((unhide HM2).blk0) Try.underlying28 rfl (by kernel_rfl) ?_
      | (go_at_call 12; refine Calls.mono (unhide HGR _) ?_; rintro _ u1 ⟨rfl, hb⟩
         have HM1 := hide ((unhide HM0).called hb)
         have HO1 := hide ((unhide HOK).below (unhide HM1).below)
         clear hb)
      | (go_at_call 14; (with_reducible refine Calls.mono (unhide HEN _ (by rw [← unhide HGS]; exact unhide HO1) (by rw [← unhide HGS]; exact (unhide HM1).below.size)) ?_); rintro _ u2 ⟨A2, n2, c2, rfl, hn2, ho2, hb2, hc2⟩
         have HM2 := hide ((unhide HM1).called hb2)
         have HO2 := hide ((unhide HOK).below (unhide HM2).below)
         have HR2 : Hid (RdB u2 u2.heap.size A2 (encB v m)) := hide ((RdV.of_own ho2).b)
         have HN2 := hide hn2
         clear hn2 ho2 hb2 hc2)
      | (go_at_call 15; (with_reducible refine Calls.mono (unhide HRN _ (by rw [← unhide HGS]; exact unhide HO2) (by rw [← unhide HGS]; exact (unhide HM2).below.size)) ?_); rintro _ u3 ⟨A3, n3, c3, rfl, hn3, ho3, hb3, hc3⟩
         have HM3 := hide ((unhide HM2).called hb3)
         have HO3 := hide ((unhide HOK).below (unhide HM3).below)
         have HR3 : Hid (RdB u3 u3.heap.size A3 (encB v m)) := hide ((RdV.of_own ho3).b)
         have HR2b := hide ((unhide HR2).below hb3)
         have HZ3 := hide hb3.size
         have HN3 := hide hn3
         clear hn3 ho3 hb3 hc3))
    clear hgs hw1
    have HM3d : Hid (Mem w u3.drew [(g, 28, mcells m A c vA vc)]) := (unhide HM3).drew
    have HR2d : Hid (RdB u3.drew u2.heap.size A2 (encB v m)) := unhide HR2b
    have HR3d : Hid (RdB u3.drew u3.heap.size A3 (encB v m)) := unhide HR3
    have HZ3d : Hid (u2.heap.size ≤ u3.drew.heap.size) := unhide HZ3
    have fS : MA m A c vA vc g u3.drew := mAt (unhide HM3d).blk0
    have HA := hide (fun u => awake_any u)
    go_region_held3 (fun u => u.cell? ⟨g, 0, none⟩ = some (.int .i64 m.kind) ∧ u.cell? ⟨g, 1, none⟩ = some (.int .u64 m.id) ∧ u.cell? ⟨g, 2, none⟩ = some (.int .u64 m.n) ∧ u.cell? ⟨g, 3, none⟩ = some (.int .u64 m.ts) ∧ u.cell? ⟨g, 4, none⟩ = some (.string m.lo) ∧ u.cell? ⟨g, 5, none⟩ = some (.string m.hi) ∧ u.cell? ⟨g, 6, none⟩ = some (.slice A m.vers.length c) ∧ u.cell? ⟨g, 7, none⟩ = some (.slice vA m.vec.length vc) ∧ u.cell? ⟨g, 8, none⟩ = some (.int .i64 m.cmd.kind) ∧ u.cell? ⟨g, 9, none⟩ = some (.int .i64 m.cmd.dc) ∧ u.cell? ⟨g, 10, none⟩ = some (.int .i64 m.cmd.shard) ∧ u.cell? ⟨g, 11, none⟩ = some (.int .i64 m.cmd.node) ∧ u.cell? ⟨g, 12, none⟩ = some (.int .i64 m.cmd.mode) ∧ u.cell? ⟨g, 13, none⟩ = some (.string m.cmd.key)) (first | assumption | exact fS | exact fS4 | exact fS6 | exact fS7 | go_keep)
      (first
      | (go_at_call 13; go_must ((
         refine Calls.mono (unhide HA _) ?_
         rintro _ u4 ⟨rfl, hb⟩
         have HM4 := hide ((unhide HM3d).called hb)
         have HR2e := hide ((unhide HR2d).below (hb.mono (unhide HZ3d)))
         have HR3e := hide ((unhide HR3d).below hb)
         have fS4 : MA m A c vA vc g u4 := mAt (unhide HM4).blk0
         have HO4 := hide ((unhide HOK).below (unhide HM4).below)
         clear hb)))
      | (go_at_call 16; go_must ((
         refine Calls.mono (same_n (encB v m) (encB v m) A2 A3 n2 n3 c2 c3 _ _ _ (unhide HR2e) (unhide HR3e) (unhide HN2) (unhide HN3)) ?_
         rintro _ u5 ⟨rfl, rfl⟩
         rw [beq_self_eq_true])))
      | (go_at_call 17; go_must ((
         refine Calls.mono (unhide HCK _ (by rw [← unhide HGS]; exact unhide HO4) (by rw [← unhide HGS]; exact (unhide HM4).below.size)) ?_
         rintro _ u6 ⟨rfl, hb⟩
         have HM6 := hide ((unhide HM4).called hb)
         have HO6 := hide ((unhide HOK).below (unhide HM6).below)
         have fS6 : MA m A c vA vc g u6 := mAt (unhide HM6).blk0
         clear hb)))
      | (go_at_call 18; go_must ((
         refine Calls.mono (unhide HRC _ (by rw [← unhide HGS]; exact unhide HO6) (by rw [← unhide HGS]; exact (unhide HM6).below.size)) ?_
         rintro _ u7 ⟨rfl, hb⟩
         have HM7 := hide ((unhide HM6).called hb)
         have fS7 : MA m A c vA vc g u7 := mAt (unhide HM7).blk0
         clear hb))))
    all_goals
      go_wp2_with fail
      go_ret
      exact ⟨rfl, (unhide HM7).below⟩
  · go_enter Try.func3, Try.ntmps3
    go_wp2_with (first
      | refine wpList_load_blk rfl 28 (.tmp 3) rfl (g) rfl 28 _ _ ((unhide HM0).blk0) Try.underlying28 rfl (by kernel_rfl) ?_
      | (go_at_call 12; refine Calls.mono (unhide HGR _) ?_; rintro _ u1 ⟨rfl, hb⟩
         have HM1 := hide ((unhide HM0).called hb)
         clear hb)
      | (go_at_call 13; refine (awake_any _).mono ?_; rintro _ u2 ⟨rfl, hb⟩
         have HM2 := hide ((unhide HM1).called hb)
         clear hb))
    go_ret
    exact ⟨rfl, (unhide HM2).below⟩
end Go.Proofs.Ytkgacehnpdijaaa
