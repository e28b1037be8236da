/- The walk of WireApart. -/
import Derived.Test.YtkgacehnpdijaaaWireSame
namespace Go.Proofs.Ytkgacehnpdijaaa
set_option linter.unusedVariables false
set_option linter.unusedSimpArgs false
open Go.RowKit Wire

theorem encB_inj {v : Int} (hv : v = 1 ∨ v = 2) {a b : Ms} (ha : chkOf a = 0) (hb : chkOf b = 0) (ra : Rng a) (rb : Rng b) : (encB v a == encB v b) = true ↔ a = b := by
  have ea : encE v a = 0 := (encE_one hv).trans ha
  have eb : encE v b = 0 := (encE_one hv).trans hb
  rw [encB_ok ea, encB_ok eb, beq_iff_eq]
  exact ⟨fun h => enc_inj ((ok_iff v a).2 ⟨(chk_iff a).1 ha, ra⟩) ((ok_iff v b).2 ⟨(chk_iff b).1 hb, rb⟩) h, fun h => by rw [h]⟩
set_option maxHeartbeats 8000000 in
set_option maxRecDepth 20000 in
theorem wireApart_any (m m' : Ms) (A : Option Addr) (c : Nat) (vA : Option Addr) (vc : Nat) (A' : Option Addr) (c' : Nat) (vA' : Option Addr) (vc' : Nat) (w : World) (ha : Mq.Ok ⟨m, A, c, vA, vc⟩ w w.heap.size) (hb : Mq.Ok ⟨m', A', c', vA', vc'⟩ w w.heap.size) :
    Calls Try.prog 4 #[.agg (mcells m A c vA vc), .agg (mcells m' A' c' vA' vc')] w fun e w' => e = .returned (.bool true) ∧ Below w.heap.size w w' := by
  have HM0 := hide (((Mem.start w).new (t := 28) (cs := mcells m A c vA vc) w.heap.size rfl).new (t := 28) (cs := mcells m' A' c' vA' vc') (w.heap.size + 1) (by simp))
  obtain ⟨g, hgs⟩ : ∃ g, w.heap.size = g := ⟨_, rfl⟩
  obtain ⟨w1, hw1⟩ : ∃ u, w.alloc (.cells (mcells m A c vA vc) 28) = u := ⟨_, rfl⟩
  obtain ⟨w2, hw2⟩ : ∃ u, w1.alloc (.cells (mcells m' A' c' vA' vc') 28) = u := ⟨_, rfl⟩
  have hw1s : w1.heap.size = g + 1 := by rw [← hw1, szA, hgs]
  rw [hw1, hw2, hgs] at HM0
  have HGS := hide hgs
  have HOA := hide ha
  have HOB := hide hb
  have HRA := hide (show Rng m from ha.rng)
  have HRB := hide (show Rng m' from hb.rng)
  clear ha hb
  obtain ⟨ga, hga⟩ : ∃ r, greatB m = r := ⟨_, rfl⟩
  obtain ⟨gb, hgb⟩ : ∃ r, greatB m' = r := ⟨_, rfl⟩
  obtain ⟨ka, hka⟩ : ∃ r, chkOf m = r := ⟨_, rfl⟩
  obtain ⟨kb, hkb⟩ : ∃ r, chkOf m' = r := ⟨_, rfl⟩
  have HGA : Hid (∀ u, Calls Try.prog 12 #[.agg #[.int .i64 m.kind, .int .u64 m.id, .int .u64 m.n, .int .u64 m.ts, .string m.lo, .string m.hi, .slice A m.vers.length c, .slice vA m.vec.length vc, .int .i64 m.cmd.kind, .int .i64 m.cmd.dc, .int .i64 m.cmd.shard, .int .i64 m.cmd.node, .int .i64 m.cmd.mode, .string m.cmd.key]] u (fun e w' => e = .returned (.bool ga) ∧ Below u.heap.size u w')) := fun u => by rw [← hga]; exact great_any m A c vA vc u
  have HGB : Hid (∀ u, Calls Try.prog 12 #[.agg #[.int .i64 m'.kind, .int .u64 m'.id, .int .u64 m'.n, .int .u64 m'.ts, .string m'.lo, .string m'.hi, .slice A' m'.vers.length c', .slice vA' m'.vec.length vc', .int .i64 m'.cmd.kind, .int .i64 m'.cmd.dc, .int .i64 m'.cmd.shard, .int .i64 m'.cmd.node, .int .i64 m'.cmd.mode, .string m'.cmd.key]] u (fun e w' => e = .returned (.bool gb) ∧ Below u.heap.size u w')) := fun u => by rw [← hgb]; exact great_any m' A' c' vA' vc' u
  have HCA : Hid (∀ u, Mq.Ok ⟨m, A, c, vA, vc⟩ u g → g ≤ u.heap.size → Calls Try.prog 17 #[.agg #[.int .i64 m.kind, .int .u64 m.id, .int .u64 m.n, .int .u64 m.ts, .string m.lo, .string m.hi, .slice A m.vers.length c, .slice vA m.vec.length vc, .int .i64 m.cmd.kind, .int .i64 m.cmd.dc, .int .i64 m.cmd.shard, .int .i64 m.cmd.node, .int .i64 m.cmd.mode, .string m.cmd.key]] u (fun e w' => e = .returned (.int .i64 ka) ∧ Below u.heap.size u w')) := fun u h1 h2 => by rw [← hka]; exact check_any m A c vA vc g u h1 h2
  have HCB : Hid (∀ u, Mq.Ok ⟨m', A', c', vA', vc'⟩ u g → g ≤ u.heap.size → Calls Try.prog 17 #[.agg #[.int .i64 m'.kind, .int .u64 m'.id, .int .u64 m'.n, .int .u64 m'.ts, .string m'.lo, .string m'.hi, .slice A' m'.vers.length c', .slice vA' m'.vec.length vc', .int .i64 m'.cmd.kind, .int .i64 m'.cmd.dc, .int .i64 m'.cmd.shard, .int .i64 m'.cmd.node, .int .i64 m'.cmd.mode, .string m'.cmd.key]] u (fun e w' => e = .returned (.int .i64 kb) ∧ Below u.heap.size u w')) := fun u h1 h2 => by rw [← hkb]; exact check_any m' A' c' vA' vc' g u h1 h2
  have HA := hide (fun u => awake_any u)
  have HKA := hide hka; have HKB := hide hkb
  clear hga hgb hka hkb
  show Calls _ _ #[.agg #[.int .i64 m.kind, .int .u64 m.id, .int .u64 m.n, .int .u64 m.ts, .string m.lo, .string m.hi, .slice A m.vers.length c, .slice vA m.vec.length vc, .int .i64 m.cmd.kind, .int .i64 m.cmd.dc, .int .i64 m.cmd.shard, .int .i64 m.cmd.node, .int .i64 m.cmd.mode, .string m.cmd.key], .agg #[.int .i64 m'.kind, .int .u64 m'.id, .int .u64 m'.n, .int .u64 m'.ts, .string m'.lo, .string m'.hi, .slice A' m'.vers.length c', .slice vA' m'.vec.length vc', .int .i64 m'.cmd.kind, .int .i64 m'.cmd.dc, .int .i64 m'.cmd.shard, .int .i64 m'.cmd.node, .int .i64 m'.cmd.mode, .string m'.cmd.key]] _ _
  cases ga
  rotate_left
  ·
    go_enter Try.func4, Try.ntmps4
    go_wp2_with (first
      | refine wpList_load_blk rfl 28 (.tmp 2) rfl (g) rfl 28 _ _ ((unhide HM0).blk1) Try.underlying28 rfl (by kernel_rfl) ?_
      | refine wpList_load_blk rfl 28 (.tmp 3) rfl (g + 1) rfl 28 _ _ ((unhide HM0).blk0) Try.underlying28 rfl (by kernel_rfl) ?_
      | refine wpList_load_blk rfl 28 (.tmp 2) rfl (g) rfl 28 _ _ ((unhide HM1).blk1) Try.underlying28 rfl (by kernel_rfl) ?_
      | refine wpList_load_blk rfl 28 (.tmp 3) rfl (g + 1) rfl 28 _ _ ((unhide HM1).blk0) Try.underlying28 rfl (by kernel_rfl) ?_
      | (go_at_call 12; (with_reducible refine Calls.mono (unhide HGA _) ?_); rintro _ u1 ⟨rfl, hb⟩
         have HM1 := hide ((unhide HM0).called hb)
         obtain ⟨x0, x1, x2, x3, x4, x5, x6, x7, x8, x9, x10, x11, x12, x13⟩ := mAt (unhide HM1).blk0
         have hsz1 := (unhide HM1).blk0.lt
         have hsy1 := (unhide HM1).blk1.lt
         clear hb)
      | (go_at_call 12; (with_reducible refine Calls.mono (unhide HGB _) ?_); rintro _ u2 ⟨rfl, hb⟩
         have HM2 := hide ((unhide HM1).called hb)
         obtain ⟨x0, x1, x2, x3, x4, x5, x6, x7, x8, x9, x10, x11, x12, x13⟩ := mAt (unhide HM2).blk1
         have hsz2 := (unhide HM2).blk0.lt
         have hsy2 := (unhide HM2).blk1.lt
         clear hb)
      | (go_at_call 17; (with_reducible refine Calls.mono (unhide HCA _ (by rw [← unhide HGS]; exact (unhide HOA).below (unhide HM2).below) (by rw [← unhide HGS]; exact (unhide HM2).below.size)) ?_); rintro _ u3 ⟨rfl, hb⟩
         have HM3 := hide ((unhide HM2).called hb)
         obtain ⟨x0, x1, x2, x3, x4, x5, x6, x7, x8, x9, x10, x11, x12, x13⟩ := mAt (unhide HM3).blk0
         have hsz3 := (unhide HM3).blk0.lt
         have hsy3 := (unhide HM3).blk1.lt
         clear hb)
      | (go_at_call 17; (with_reducible refine Calls.mono (unhide HCB _ (by rw [← unhide HGS]; exact (unhide HOB).below (unhide HM3).below) (by rw [← unhide HGS]; exact (unhide HM3).below.size)) ?_); rintro _ u4 ⟨rfl, hb⟩
         have HM4 := hide ((unhide HM3).called hb)
         obtain ⟨x0, x1, x2, x3, x4, x5, x6, x7, x8, x9, x10, x11, x12, x13⟩ := mAt (unhide HM4).blk1
         have hsz4 := (unhide HM4).blk0.lt
         have hsy4 := (unhide HM4).blk1.lt
         clear hb)
      | (go_at_call 13; refine Calls.mono (unhide HA _) ?_; rintro _ u5 ⟨rfl, hb⟩
         have HM5 := hide ((unhide HM1).called hb)
         clear hb))
    go_ret
    exact ⟨rfl, by have h := (unhide HM5).below; first | exact h | (rw [unhide HGS] at h; exact h)⟩
  cases gb
  rotate_left
  ·
    go_enter Try.func4, Try.ntmps4
    go_wp2_with (first
      | refine wpList_load_blk rfl 28 (.tmp 2) rfl (g) rfl 28 _ _ ((unhide HM0).blk1) Try.underlying28 rfl (by kernel_rfl) ?_
      | refine wpList_load_blk rfl 28 (.tmp 3) rfl (g + 1) rfl 28 _ _ ((unhide HM0).blk0) Try.underlying28 rfl (by kernel_rfl) ?_
      | refine wpList_load_blk rfl 28 (.tmp 2) rfl (g) rfl 28 _ _ ((unhide HM1).blk1) Try.underlying28 rfl (by kernel_rfl) ?_
      | refine wpList_load_blk rfl 28 (.tmp 3) rfl (g + 1) rfl 28 _ _ ((unhide HM1).blk0) Try.underlying28 rfl (by kernel_rfl) ?_
      | refine wpList_load_blk rfl 28 (.tmp 2) rfl (g) rfl 28 _ _ ((unhide HM2).blk1) Try.underlying28 rfl (by kernel_rfl) ?_
      | refine wpList_load_blk rfl 28 (.tmp 3) rfl (g + 1) rfl 28 _ _ ((unhide HM2).blk0) Try.underlying28 rfl (by kernel_rfl) ?_
      | (go_at_call 12; (with_reducible refine Calls.mono (unhide HGA _) ?_); rintro _ u1 ⟨rfl, hb⟩
         have HM1 := hide ((unhide HM0).called hb)
         obtain ⟨x0, x1, x2, x3, x4, x5, x6, x7, x8, x9, x10, x11, x12, x13⟩ := mAt (unhide HM1).blk0
         have hsz1 := (unhide HM1).blk0.lt
         have hsy1 := (unhide HM1).blk1.lt
         clear hb)
      | (go_at_call 12; (with_reducible refine Calls.mono (unhide HGB _) ?_); rintro _ u2 ⟨rfl, hb⟩
         have HM2 := hide ((unhide HM1).called hb)
         obtain ⟨x0, x1, x2, x3, x4, x5, x6, x7, x8, x9, x10, x11, x12, x13⟩ := mAt (unhide HM2).blk1
         have hsz2 := (unhide HM2).blk0.lt
         have hsy2 := (unhide HM2).blk1.lt
         clear hb)
      | (go_at_call 17; (with_reducible refine Calls.mono (unhide HCA _ (by rw [← unhide HGS]; exact (unhide HOA).below (unhide HM2).below) (by rw [← unhide HGS]; exact (unhide HM2).below.size)) ?_); rintro _ u3 ⟨rfl, hb⟩
         have HM3 := hide ((unhide HM2).called hb)
         obtain ⟨x0, x1, x2, x3, x4, x5, x6, x7, x8, x9, x10, x11, x12, x13⟩ := mAt (unhide HM3).blk0
         have hsz3 := (unhide HM3).blk0.lt
         have hsy3 := (unhide HM3).blk1.lt
         clear hb)
      | (go_at_call 17; (with_reducible refine Calls.mono (unhide HCB _ (by rw [← unhide HGS]; exact (unhide HOB).below (unhide HM3).below) (by rw [← unhide HGS]; exact (unhide HM3).below.size)) ?_); rintro _ u4 ⟨rfl, hb⟩
         have HM4 := hide ((unhide HM3).called hb)
         obtain ⟨x0, x1, x2, x3, x4, x5, x6, x7, x8, x9, x10, x11, x12, x13⟩ := mAt (unhide HM4).blk1
         have hsz4 := (unhide HM4).blk0.lt
         have hsy4 := (unhide HM4).blk1.lt
         clear hb)
      | (go_at_call 13; refine Calls.mono (unhide HA _) ?_; rintro _ u5 ⟨rfl, hb⟩
         have HM5 := hide ((unhide HM2).called hb)
         clear hb))
    go_ret
    exact ⟨rfl, by have h := (unhide HM5).below; first | exact h | (rw [unhide HGS] at h; exact h)⟩
  by_cases za : ka = 0
  rotate_left
  ·
    have g1 : (ka != 0) = true := by simp [za]
    clear za
    go_enter Try.func4, Try.ntmps4
    go_wp2_with (first
      | refine wpList_load_blk rfl 28 (.tmp 2) rfl (g) rfl 28 _ _ ((unhide HM0).blk1) Try.underlying28 rfl (by kernel_rfl) ?_
      | refine wpList_load_blk rfl 28 (.tmp 3) rfl (g + 1) rfl 28 _ _ ((unhide HM0).blk0) Try.underlying28 rfl (by kernel_rfl) ?_
      | refine wpList_load_blk rfl 28 (.tmp 2) rfl (g) rfl 28 _ _ ((unhide HM1).blk1) Try.underlying28 rfl (by kernel_rfl) ?_
      | refine wpList_load_blk rfl 28 (.tmp 3) rfl (g + 1) rfl 28 _ _ ((unhide HM1).blk0) Try.underlying28 rfl (by kernel_rfl) ?_
      | refine wpList_load_blk rfl 28 (.tmp 2) rfl (g) rfl 28 _ _ ((unhide HM2).blk1) Try.underlying28 rfl (by kernel_rfl) ?_
      | refine wpList_load_blk rfl 28 (.tmp 3) rfl (g + 1) rfl 28 _ _ ((unhide HM2).blk0) Try.underlying28 rfl (by kernel_rfl) ?_
      | refine wpList_load_blk rfl 28 (.tmp 2) rfl (g) rfl 28 _ _ ((unhide HM3).blk1) Try.underlying28 rfl (by kernel_rfl) ?_
      | refine wpList_load_blk rfl 28 (.tmp 3) rfl (g + 1) rfl 28 _ _ ((unhide HM3).blk0) Try.underlying28 rfl (by kernel_rfl) ?_
      | (go_at_call 12; (with_reducible refine Calls.mono (unhide HGA _) ?_); rintro _ u1 ⟨rfl, hb⟩
         have HM1 := hide ((unhide HM0).called hb)
         obtain ⟨x0, x1, x2, x3, x4, x5, x6, x7, x8, x9, x10, x11, x12, x13⟩ := mAt (unhide HM1).blk0
         have hsz1 := (unhide HM1).blk0.lt
         have hsy1 := (unhide HM1).blk1.lt
         clear hb)
      | (go_at_call 12; (with_reducible refine Calls.mono (unhide HGB _) ?_); rintro _ u2 ⟨rfl, hb⟩
         have HM2 := hide ((unhide HM1).called hb)
         obtain ⟨x0, x1, x2, x3, x4, x5, x6, x7, x8, x9, x10, x11, x12, x13⟩ := mAt (unhide HM2).blk1
         have hsz2 := (unhide HM2).blk0.lt
         have hsy2 := (unhide HM2).blk1.lt
         clear hb)
      | (go_at_call 17; (with_reducible refine Calls.mono (unhide HCA _ (by rw [← unhide HGS]; exact (unhide HOA).below (unhide HM2).below) (by rw [← unhide HGS]; exact (unhide HM2).below.size)) ?_); rintro _ u3 ⟨rfl, hb⟩
         have HM3 := hide ((unhide HM2).called hb)
         obtain ⟨x0, x1, x2, x3, x4, x5, x6, x7, x8, x9, x10, x11, x12, x13⟩ := mAt (unhide HM3).blk0
         have hsz3 := (unhide HM3).blk0.lt
         have hsy3 := (unhide HM3).blk1.lt
         clear hb)
      | (go_at_call 17; (with_reducible refine Calls.mono (unhide HCB _ (by rw [← unhide HGS]; exact (unhide HOB).below (unhide HM3).below) (by rw [← unhide HGS]; exact (unhide HM3).below.size)) ?_); rintro _ u4 ⟨rfl, hb⟩
         have HM4 := hide ((unhide HM3).called hb)
         obtain ⟨x0, x1, x2, x3, x4, x5, x6, x7, x8, x9, x10, x11, x12, x13⟩ := mAt (unhide HM4).blk1
         have hsz4 := (unhide HM4).blk0.lt
         have hsy4 := (unhide HM4).blk1.lt
         clear hb)
      | (go_at_call 13; refine Calls.mono (unhide HA _) ?_; rintro _ u5 ⟨rfl, hb⟩
         have HM5 := hide ((unhide HM3).called hb)
         clear hb))
    go_ret
    exact ⟨rfl, by have h := (unhide HM5).below; first | exact h | (rw [unhide HGS] at h; exact h)⟩
  subst za
  by_cases zb : kb = 0
  rotate_left
  ·
    have g1 : (kb != 0) = true := by simp [zb]
    clear zb
    go_enter Try.func4, Try.ntmps4
    go_wp2_with (first
      | refine wpList_load_blk rfl 28 (.tmp 2) rfl (g) rfl 28 _ _ ((unhide HM0).blk1) Try.underlying28 rfl (by kernel_rfl) ?_
      | refine wpList_load_blk rfl 28 (.tmp 3) rfl (g + 1) rfl 28 _ _ ((unhide HM0).blk0) Try.underlying28 rfl (by kernel_rfl) ?_
      | refine wpList_load_blk rfl 28 (.tmp 2) rfl (g) rfl 28 _ _ ((unhide HM1).blk1) Try.underlying28 rfl (by kernel_rfl) ?_
      | refine wpList_load_blk rfl 28 (.tmp 3) rfl (g + 1) rfl 28 _ _ ((unhide HM1).blk0) Try.underlying28 rfl (by kernel_rfl) ?_
      | refine wpList_load_blk rfl 28 (.tmp 2) rfl (g) rfl 28 _ _ ((unhide HM2).blk1) Try.underlying28 rfl (by kernel_rfl) ?_
      | refine wpList_load_blk rfl 28 (.tmp 3) rfl (g + 1) rfl 28 _ _ ((unhide HM2).blk0) Try.underlying28 rfl (by kernel_rfl) ?_
      | refine wpList_load_blk rfl 28 (.tmp 2) rfl (g) rfl 28 _ _ ((unhide HM3).blk1) Try.underlying28 rfl (by kernel_rfl) ?_
      | refine wpList_load_blk rfl 28 (.tmp 3) rfl (g + 1) rfl 28 _ _ ((unhide HM3).blk0) Try.underlying28 rfl (by kernel_rfl) ?_
      | refine wpList_load_blk rfl 28 (.tmp 2) rfl (g) rfl 28 _ _ ((unhide HM4).blk1) Try.underlying28 rfl (by kernel_rfl) ?_
      | refine wpList_load_blk rfl 28 (.tmp 3) rfl (g + 1) rfl 28 _ _ ((unhide HM4).blk0) Try.underlying28 rfl (by kernel_rfl) ?_
      | (go_at_call 12; (with_reducible refine Calls.mono (unhide HGA _) ?_); rintro _ u1 ⟨rfl, hb⟩
         have HM1 := hide ((unhide HM0).called hb)
         obtain ⟨x0, x1, x2, x3, x4, x5, x6, x7, x8, x9, x10, x11, x12, x13⟩ := mAt (unhide HM1).blk0
         have hsz1 := (unhide HM1).blk0.lt
         have hsy1 := (unhide HM1).blk1.lt
         clear hb)
      | (go_at_call 12; (with_reducible refine Calls.mono (unhide HGB _) ?_); rintro _ u2 ⟨rfl, hb⟩
         have HM2 := hide ((unhide HM1).called hb)
         obtain ⟨x0, x1, x2, x3, x4, x5, x6, x7, x8, x9, x10, x11, x12, x13⟩ := mAt (unhide HM2).blk1
         have hsz2 := (unhide HM2).blk0.lt
         have hsy2 := (unhide HM2).blk1.lt
         clear hb)
      | (go_at_call 17; (with_reducible refine Calls.mono (unhide HCA _ (by rw [← unhide HGS]; exact (unhide HOA).below (unhide HM2).below) (by rw [← unhide HGS]; exact (unhide HM2).below.size)) ?_); rintro _ u3 ⟨rfl, hb⟩
         have HM3 := hide ((unhide HM2).called hb)
         obtain ⟨x0, x1, x2, x3, x4, x5, x6, x7, x8, x9, x10, x11, x12, x13⟩ := mAt (unhide HM3).blk0
         have hsz3 := (unhide HM3).blk0.lt
         have hsy3 := (unhide HM3).blk1.lt
         clear hb)
      | (go_at_call 17; (with_reducible refine Calls.mono (unhide HCB _ (by rw [← unhide HGS]; exact (unhide HOB).below (unhide HM3).below) (by rw [← unhide HGS]; exact (unhide HM3).below.size)) ?_); rintro _ u4 ⟨rfl, hb⟩
         have HM4 := hide ((unhide HM3).called hb)
         obtain ⟨x0, x1, x2, x3, x4, x5, x6, x7, x8, x9, x10, x11, x12, x13⟩ := mAt (unhide HM4).blk1
         have hsz4 := (unhide HM4).blk0.lt
         have hsy4 := (unhide HM4).blk1.lt
         clear hb)
      | (go_at_call 13; refine Calls.mono (unhide HA _) ?_; rintro _ u5 ⟨rfl, hb⟩
         have HM5 := hide ((unhide HM4).called hb)
         clear hb))
    go_ret
    exact ⟨rfl, by have h := (unhide HM5).below; first | exact h | (rw [unhide HGS] at h; exact h)⟩
  subst zb
  obtain ⟨r, hr⟩ : ∃ r : Bool, r = true ↔ m = m' := ⟨@decide (m = m') (Classical.propDecidable _), @decide_eq_true_iff _ (Classical.propDecidable _)⟩
  have HR := hide hr
  clear hr
  go_enter Try.func4, Try.ntmps4
  go_wp2_with (first
    | refine wpList_load_blk rfl 28 (.tmp 2) rfl (g) rfl 28 _ _ ((unhide HM0).blk1) Try.underlying28 rfl (by kernel_rfl) ?_
    | refine wpList_load_blk rfl 28 (.tmp 3) rfl (g + 1) rfl 28 _ _ ((unhide HM0).blk0) Try.underlying28 rfl (by kernel_rfl) ?_
    | refine wpList_load_blk rfl 28 (.tmp 2) rfl (g) rfl 28 _ _ ((unhide HM1).blk1) Try.underlying28 rfl (by kernel_rfl) ?_
    | refine wpList_load_blk rfl 28 (.tmp 3) rfl (g + 1) rfl 28 _ _ ((unhide HM1).blk0) Try.underlying28 rfl (by kernel_rfl) ?_
    | refine wpList_load_blk rfl 28 (.tmp 2) rfl (g) rfl 28 _ _ ((unhide HM2).blk1) Try.underlying28 rfl (by kernel_rfl) ?_
    | refine wpList_load_blk rfl 28 (.tmp 3) rfl (g + 1) rfl 28 _ _ ((unhide HM2).blk0) Try.underlying28 rfl (by kernel_rfl) ?_
    | refine wpList_load_blk rfl 28 (.tmp 2) rfl (g) rfl 28 _ _ ((unhide HM3).blk1) Try.underlying28 rfl (by kernel_rfl) ?_
    | refine wpList_load_blk rfl 28 (.tmp 3) rfl (g + 1) rfl 28 _ _ ((unhide HM3).blk0) Try.underlying28 rfl (by kernel_rfl) ?_
    | refine wpList_load_blk rfl 28 (.tmp 2) rfl (g) rfl 28 _ _ ((unhide HM4).blk1) Try.underlying28 rfl (by kernel_rfl) ?_
    | refine wpList_load_blk rfl 28 (.tmp 3) rfl (g + 1) rfl 28 _ _ ((unhide HM4).blk0) Try.underlying28 rfl (by kernel_rfl) ?_
    | (go_at_call 12; (with_reducible refine Calls.mono (unhide HGA _) ?_); rintro _ u1 ⟨rfl, hb⟩
       have HM1 := hide ((unhide HM0).called hb)
       obtain ⟨x0, x1, x2, x3, x4, x5, x6, x7, x8, x9, x10, x11, x12, x13⟩ := mAt (unhide HM1).blk0
       have hsz1 := (unhide HM1).blk0.lt
       have hsy1 := (unhide HM1).blk1.lt
       clear hb)
    | (go_at_call 12; (with_reducible refine Calls.mono (unhide HGB _) ?_); rintro _ u2 ⟨rfl, hb⟩
       have HM2 := hide ((unhide HM1).called hb)
       obtain ⟨x0, x1, x2, x3, x4, x5, x6, x7, x8, x9, x10, x11, x12, x13⟩ := mAt (unhide HM2).blk1
       have hsz2 := (unhide HM2).blk0.lt
       have hsy2 := (unhide HM2).blk1.lt
       clear hb)
    | (go_at_call 17; (with_reducible refine Calls.mono (unhide HCA _ (by rw [← unhide HGS]; exact (unhide HOA).below (unhide HM2).below) (by rw [← unhide HGS]; exact (unhide HM2).below.size)) ?_); rintro _ u3 ⟨rfl, hb⟩
       have HM3 := hide ((unhide HM2).called hb)
       obtain ⟨x0, x1, x2, x3, x4, x5, x6, x7, x8, x9, x10, x11, x12, x13⟩ := mAt (unhide HM3).blk0
       have hsz3 := (unhide HM3).blk0.lt
       have hsy3 := (unhide HM3).blk1.lt
       clear hb)
    | (go_at_call 17; (with_reducible refine Calls.mono (unhide HCB _ (by rw [← unhide HGS]; exact (unhide HOB).below (unhide HM3).below) (by rw [← unhide HGS]; exact (unhide HM3).below.size)) ?_); rintro _ u4 ⟨rfl, hb⟩
       have HM4 := hide ((unhide HM3).called hb)
       obtain ⟨x0, x1, x2, x3, x4, x5, x6, x7, x8, x9, x10, x11, x12, x13⟩ := mAt (unhide HM4).blk1
       have hsz4 := (unhide HM4).blk0.lt
       have hsy4 := (unhide HM4).blk1.lt
       clear hb)
    )
  clear hgs hw1 hw2 hw1s
  go_loopw [5] (fun i wr => ∃ k : Nat, k ≤ 2 ∧ i = .int .i64 ((k : Int) + 1) ∧ Mem w wr [(g + 1, 28, mcells m' A' c' vA' vc'), (g, 28, mcells m A c vA vc)]) (fun i _ => 4 - (intOf i).toNat)
  case atStart => exact ⟨0, by omega, rfl, unhide HM4⟩
  case round =>
    obtain ⟨k, hk, rfl, hm⟩ := hrel
    clear HM0 HM1 HM2 HM3 HM4
    have HM5 := hide hm
    clear hm
    by_cases h2 : k = 2
    · subst h2
      rw [show (((2 : Nat) : Int) + 1) = 3 from rfl]
      go_wp2_with (go_at_call 13; refine Calls.mono (unhide HA _) ?_; rintro _ u6 ⟨rfl, hb⟩
                   have HM6 := hide ((unhide HM5).called hb)
                   clear hb)
      go_ret
      exact ⟨rfl, by have h := (unhide HM6).below; first | exact h | (rw [unhide HGS] at h; exact h)⟩
    · obtain ⟨v, hv⟩ : ∃ v : Int, (k : Int) + 1 = v := ⟨_, rfl⟩
      have hv12 : v = 1 ∨ v = 2 := by omega
      have HV := hide hv
      have hle : v ≤ 2 := by omega
      have ew : IntKind.i64.wrap (v + 1) = v + 1 := wrapI (by omega) (by omega)
      rw [hv]
      have HBI := hide (encB_inj hv12 (unhide HKA) (unhide HKB) (unhide HRA) (unhide HRB))
      have HEA : Hid (∀ u, Mq.Ok ⟨m, A, c, vA, vc⟩ u g → g ≤ u.heap.size → Calls Try.prog 14 #[.int .i64 v, .agg #[.int .i64 m.kind, .int .u64 m.id, .int .u64 m.n, .int .u64 m.ts, .string m.lo, .string m.hi, .slice A m.vers.length c, .slice vA m.vec.length vc, .int .i64 m.cmd.kind, .int .i64 m.cmd.dc, .int .i64 m.cmd.shard, .int .i64 m.cmd.node, .int .i64 m.cmd.mode, .string m.cmd.key]] u (EncRes v m u)) := fun u h1 h2 => encode_any v m A c vA vc g u h1 h2
      have HEB : Hid (∀ u, Mq.Ok ⟨m', A', c', vA', vc'⟩ u g → g ≤ u.heap.size → Calls Try.prog 14 #[.int .i64 v, .agg #[.int .i64 m'.kind, .int .u64 m'.id, .int .u64 m'.n, .int .u64 m'.ts, .string m'.lo, .string m'.hi, .slice A' m'.vers.length c', .slice vA' m'.vec.length vc', .int .i64 m'.cmd.kind, .int .i64 m'.cmd.dc, .int .i64 m'.cmd.shard, .int .i64 m'.cmd.node, .int .i64 m'.cmd.mode, .string m'.cmd.key]] u (EncRes v m' u)) := fun u h1 h2 => encode_any v m' A' c' vA' vc' g u h1 h2
      clear hv hv12
      go_upto_region 8 with (first
        | refine wpList_load_blk rfl 28 (.tmp 2) rfl (g) rfl 28 _ _ ((unhide HM5).blk1) Try.underlying28 rfl (by kernel_rfl) ?_
        | refine wpList_load_blk rfl 28 (.tmp 3) rfl (g + 1) rfl 28 _ _ ((unhide HM5).blk0) Try.underlying28 rfl (by kernel_rfl) ?_
        | refine wpList_load_blk rfl 28 (.tmp 2) rfl (g) rfl 28 _ _ ((unhide HM6).blk1) Try.underlying28 rfl (by kernel_rfl) ?_
        | refine wpList_load_blk rfl 28 (.tmp 3) rfl (g + 1) rfl 28 _ _ ((unhide HM6).blk0) Try.underlying28 rfl (by kernel_rfl) ?_
        | refine wpList_load_blk rfl 28 (.tmp 2) rfl (g) rfl 28 _ _ ((unhide HM7).blk1) Try.underlying28 rfl (by kernel_rfl) ?_
        | refine wpList_load_blk rfl 28 (.tmp 3) rfl (g + 1) rfl 28 _ _ ((unhide HM7).blk0) Try.underlying28 rfl (by kernel_rfl) ?_
        | (go_at_call 14; (with_reducible refine Calls.mono (unhide HEA _ (by rw [← unhide HGS]; exact (unhide HOA).below (unhide HM5).below) (by rw [← unhide HGS]; exact (unhide HM5).below.size)) ?_); rintro _ u6 ⟨A6, n6, c6, rfl, hn6, ho6, hb, hc6⟩
           have HM6 := hide ((unhide HM5).called hb)
           have HR6 : Hid (RdB u6 u6.heap.size A6 (encB v m)) := hide ((RdV.of_own ho6).b)
           have HN6 := hide hn6
           clear hn6 ho6 hb hc6)
        | (go_at_call 14; (with_reducible refine Calls.mono (unhide HEB _ (by rw [← unhide HGS]; exact (unhide HOB).below (unhide HM6).below) (by rw [← unhide HGS]; exact (unhide HM6).below.size)) ?_); rintro _ u7 ⟨A7, n7, c7, rfl, hn7, ho7, hb, hc7⟩
           have HM7 := hide ((unhide HM6).called hb)
           have HR7 : Hid (RdB u7 u7.heap.size A7 (encB v m')) := hide ((RdV.of_own ho7).b)
           have HR6b := hide ((unhide HR6).below hb)
           have HN7 := hide hn7
           clear hn7 ho7 hb hc7))
      have HM7d : Hid (Mem w u7.drew [(g + 1, 28, mcells m' A' c' vA' vc'), (g, 28, mcells m A c vA vc)]) := (unhide HM7).drew
      have HR6d : Hid (RdB u7.drew u6.heap.size A6 (encB v m)) := unhide HR6b
      have HR7d : Hid (RdB u7.drew u7.heap.size A7 (encB v m')) := unhide HR7
      have fS : MA m A c vA vc g u7.drew ∧ MA m' A' c' vA' vc' (g + 1) u7.drew := ⟨mAt (unhide HM7d).blk1, mAt (unhide HM7d).blk0⟩
      have fS' : u7.drew.cell? ⟨g, 0, none⟩ = some (.int .i64 m.kind) ∧ u7.drew.cell? ⟨g, 1, none⟩ = some (.int .u64 m.id) ∧ u7.drew.cell? ⟨g, 2, none⟩ = some (.int .u64 m.n) ∧ u7.drew.cell? ⟨g, 3, none⟩ = some (.int .u64 m.ts) ∧ u7.drew.cell? ⟨g, 4, none⟩ = some (.string m.lo) ∧ u7.drew.cell? ⟨g, 5, none⟩ = some (.string m.hi) ∧ u7.drew.cell? ⟨g, 6, none⟩ = some (.slice A m.vers.length c) ∧ u7.drew.cell? ⟨g, 7, none⟩ = some (.slice vA m.vec.length vc) ∧ u7.drew.cell? ⟨g, 8, none⟩ = some (.int .i64 m.cmd.kind) ∧ u7.drew.cell? ⟨g, 9, none⟩ = some (.int .i64 m.cmd.dc) ∧ u7.drew.cell? ⟨g, 10, none⟩ = some (.int .i64 m.cmd.shard) ∧ u7.drew.cell? ⟨g, 11, none⟩ = some (.int .i64 m.cmd.node) ∧ u7.drew.cell? ⟨g, 12, none⟩ = some (.int .i64 m.cmd.mode) ∧ u7.drew.cell? ⟨g, 13, none⟩ = some (.string m.cmd.key) ∧ u7.drew.cell? ⟨g + 1, 0, none⟩ = some (.int .i64 m'.kind) ∧ u7.drew.cell? ⟨g + 1, 1, none⟩ = some (.int .u64 m'.id) ∧ u7.drew.cell? ⟨g + 1, 2, none⟩ = some (.int .u64 m'.n) ∧ u7.drew.cell? ⟨g + 1, 3, none⟩ = some (.int .u64 m'.ts) ∧ u7.drew.cell? ⟨g + 1, 4, none⟩ = some (.string m'.lo) ∧ u7.drew.cell? ⟨g + 1, 5, none⟩ = some (.string m'.hi) ∧ u7.drew.cell? ⟨g + 1, 6, none⟩ = some (.slice A' m'.vers.length c') ∧ u7.drew.cell? ⟨g + 1, 7, none⟩ = some (.slice vA' m'.vec.length vc') ∧ u7.drew.cell? ⟨g + 1, 8, none⟩ = some (.int .i64 m'.cmd.kind) ∧ u7.drew.cell? ⟨g + 1, 9, none⟩ = some (.int .i64 m'.cmd.dc) ∧ u7.drew.cell? ⟨g + 1, 10, none⟩ = some (.int .i64 m'.cmd.shard) ∧ u7.drew.cell? ⟨g + 1, 11, none⟩ = some (.int .i64 m'.cmd.node) ∧ u7.drew.cell? ⟨g + 1, 12, none⟩ = some (.int .i64 m'.cmd.mode) ∧ u7.drew.cell? ⟨g + 1, 13, none⟩ = some (.string m'.cmd.key) := by obtain ⟨⟨x0, x1, x2, x3, x4, x5, x6, x7, x8, x9, x10, x11, x12, x13⟩, y⟩ := fS; exact ⟨x0, x1, x2, x3, x4, x5, x6, x7, x8, x9, x10, x11, x12, x13, y⟩
      clear fS
      have HSM : Hid (∀ u, Mem w u [(g + 1, 28, mcells m' A' c' vA' vc'), (g, 28, mcells m A c vA vc)] → Calls Try.prog 19 #[.agg #[.int .i64 m.kind, .int .u64 m.id, .int .u64 m.n, .int .u64 m.ts, .string m.lo, .string m.hi, .slice A m.vers.length c, .slice vA m.vec.length vc, .int .i64 m.cmd.kind, .int .i64 m.cmd.dc, .int .i64 m.cmd.shard, .int .i64 m.cmd.node, .int .i64 m.cmd.mode, .string m.cmd.key], .agg #[.int .i64 m'.kind, .int .u64 m'.id, .int .u64 m'.n, .int .u64 m'.ts, .string m'.lo, .string m'.hi, .slice A' m'.vers.length c', .slice vA' m'.vec.length vc', .int .i64 m'.cmd.kind, .int .i64 m'.cmd.dc, .int .i64 m'.cmd.shard, .int .i64 m'.cmd.node, .int .i64 m'.cmd.mode, .string m'.cmd.key]] u fun e w' => e = .returned (.bool r) ∧ Below u.heap.size u w') := fun u hu => same_msg m m' r (unhide HR) A c vA vc A' c' vA' vc' w.heap.size w.heap.size u ((unhide HOA).below hu.below) ((unhide HOB).below hu.below) hu.below.size hu.below.size
      have hrr : (encB v m == encB v m') = r := by
        rcases hq : (encB v m == encB v m') with _ | _
        · cases r with
          | false => rfl
          | true => exact absurd ((unhide HBI).2 ((unhide HR).1 rfl)) (by rw [hq]; decide)
        · exact ((unhide HR).2 ((unhide HBI).1 hq)).symm
      have HRR := hide hrr
      clear hrr
      go_region_held3 (fun u => u.cell? ⟨g, 0, none⟩ = some (.int .i64 m.kind) ∧ u.cell? ⟨g, 1, none⟩ = some (.int .u64 m.id) ∧ u.cell? ⟨g, 2, none⟩ = some (.int .u64 m.n) ∧ u.cell? ⟨g, 3, none⟩ = some (.int .u64 m.ts) ∧ u.cell? ⟨g, 4, none⟩ = some (.string m.lo) ∧ u.cell? ⟨g, 5, none⟩ = some (.string m.hi) ∧ u.cell? ⟨g, 6, none⟩ = some (.slice A m.vers.length c) ∧ u.cell? ⟨g, 7, none⟩ = some (.slice vA m.vec.length vc) ∧ u.cell? ⟨g, 8, none⟩ = some (.int .i64 m.cmd.kind) ∧ u.cell? ⟨g, 9, none⟩ = some (.int .i64 m.cmd.dc) ∧ u.cell? ⟨g, 10, none⟩ = some (.int .i64 m.cmd.shard) ∧ u.cell? ⟨g, 11, none⟩ = some (.int .i64 m.cmd.node) ∧ u.cell? ⟨g, 12, none⟩ = some (.int .i64 m.cmd.mode) ∧ u.cell? ⟨g, 13, none⟩ = some (.string m.cmd.key) ∧ u.cell? ⟨g + 1, 0, none⟩ = some (.int .i64 m'.kind) ∧ u.cell? ⟨g + 1, 1, none⟩ = some (.int .u64 m'.id) ∧ u.cell? ⟨g + 1, 2, none⟩ = some (.int .u64 m'.n) ∧ u.cell? ⟨g + 1, 3, none⟩ = some (.int .u64 m'.ts) ∧ u.cell? ⟨g + 1, 4, none⟩ = some (.string m'.lo) ∧ u.cell? ⟨g + 1, 5, none⟩ = some (.string m'.hi) ∧ u.cell? ⟨g + 1, 6, none⟩ = some (.slice A' m'.vers.length c') ∧ u.cell? ⟨g + 1, 7, none⟩ = some (.slice vA' m'.vec.length vc') ∧ u.cell? ⟨g + 1, 8, none⟩ = some (.int .i64 m'.cmd.kind) ∧ u.cell? ⟨g + 1, 9, none⟩ = some (.int .i64 m'.cmd.dc) ∧ u.cell? ⟨g + 1, 10, none⟩ = some (.int .i64 m'.cmd.shard) ∧ u.cell? ⟨g + 1, 11, none⟩ = some (.int .i64 m'.cmd.node) ∧ u.cell? ⟨g + 1, 12, none⟩ = some (.int .i64 m'.cmd.mode) ∧ u.cell? ⟨g + 1, 13, none⟩ = some (.string m'.cmd.key)) (first | assumption | exact fS' | exact fS9' | go_keep)
        (first
        | (go_at_call 16; go_must ((
           refine Calls.mono (same_n (encB v m) (encB v m') A6 A7 n6 n7 c6 c7 _ _ _ (unhide HR6d) (unhide HR7d) (unhide HN6) (unhide HN7)) ?_
           rintro _ u8 ⟨rfl, rfl⟩
           rw [unhide HRR])))
        | (go_at_call 19; go_must ((
           refine Calls.mono (unhide HSM _ (unhide HM7d)) ?_
           rintro _ u9 ⟨rfl, hb⟩
           have HM9 := hide ((unhide HM7d).called hb)
           have fS9 := mAt (unhide HM9).blk1
           have fT9 := mAt (unhide HM9).blk0
           have fS9' : u9.cell? ⟨g, 0, none⟩ = some (.int .i64 m.kind) ∧ u9.cell? ⟨g, 1, none⟩ = some (.int .u64 m.id) ∧ u9.cell? ⟨g, 2, none⟩ = some (.int .u64 m.n) ∧ u9.cell? ⟨g, 3, none⟩ = some (.int .u64 m.ts) ∧ u9.cell? ⟨g, 4, none⟩ = some (.string m.lo) ∧ u9.cell? ⟨g, 5, none⟩ = some (.string m.hi) ∧ u9.cell? ⟨g, 6, none⟩ = some (.slice A m.vers.length c) ∧ u9.cell? ⟨g, 7, none⟩ = some (.slice vA m.vec.length vc) ∧ u9.cell? ⟨g, 8, none⟩ = some (.int .i64 m.cmd.kind) ∧ u9.cell? ⟨g, 9, none⟩ = some (.int .i64 m.cmd.dc) ∧ u9.cell? ⟨g, 10, none⟩ = some (.int .i64 m.cmd.shard) ∧ u9.cell? ⟨g, 11, none⟩ = some (.int .i64 m.cmd.node) ∧ u9.cell? ⟨g, 12, none⟩ = some (.int .i64 m.cmd.mode) ∧ u9.cell? ⟨g, 13, none⟩ = some (.string m.cmd.key) ∧ u9.cell? ⟨g + 1, 0, none⟩ = some (.int .i64 m'.kind) ∧ u9.cell? ⟨g + 1, 1, none⟩ = some (.int .u64 m'.id) ∧ u9.cell? ⟨g + 1, 2, none⟩ = some (.int .u64 m'.n) ∧ u9.cell? ⟨g + 1, 3, none⟩ = some (.int .u64 m'.ts) ∧ u9.cell? ⟨g + 1, 4, none⟩ = some (.string m'.lo) ∧ u9.cell? ⟨g + 1, 5, none⟩ = some (.string m'.hi) ∧ u9.cell? ⟨g + 1, 6, none⟩ = some (.slice A' m'.vers.length c') ∧ u9.cell? ⟨g + 1, 7, none⟩ = some (.slice vA' m'.vec.length vc') ∧ u9.cell? ⟨g + 1, 8, none⟩ = some (.int .i64 m'.cmd.kind) ∧ u9.cell? ⟨g + 1, 9, none⟩ = some (.int .i64 m'.cmd.dc) ∧ u9.cell? ⟨g + 1, 10, none⟩ = some (.int .i64 m'.cmd.shard) ∧ u9.cell? ⟨g + 1, 11, none⟩ = some (.int .i64 m'.cmd.node) ∧ u9.cell? ⟨g + 1, 12, none⟩ = some (.int .i64 m'.cmd.mode) ∧ u9.cell? ⟨g + 1, 13, none⟩ = some (.string m'.cmd.key) := by obtain ⟨x0, x1, x2, x3, x4, x5, x6, x7, x8, x9, x10, x11, x12, x13⟩ := fS9; exact ⟨x0, x1, x2, x3, x4, x5, x6, x7, x8, x9, x10, x11, x12, x13, fT9⟩
           clear hb fS9 fT9))))
      all_goals
        go_wp2_with fail
        exact ⟨⟨k + 1, by omega, by rw [← unhide HV]; push_cast; rfl, unhide HM9⟩, by have := unhide HV; simp [intOf]; omega⟩
end Go.Proofs.Ytkgacehnpdijaaa
