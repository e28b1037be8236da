/- The walk of WireDecodes. -/
import Derived.Test.YtkgacehnpdijaaaWireDecA
import Derived.Test.YtkgacehnpdijaaaWireSame
namespace Go.Proofs.Ytkgacehnpdijaaa
set_option linter.unusedVariables false
set_option linter.unusedSimpArgs false
open Go.RowKit Wire

set_option maxHeartbeats 4000000 in
set_option maxRecDepth 20000 in
theorem wireDecodes_any (v : Int) (b : List UInt8) (A : Option Addr) (c : Nat) (w : World) (hr : RdB w w.heap.size A b) (hc : b.length ≤ c) (hm : c ≤ 9223372036854775807 ∧ b.length ≤ 140737488351232) : Calls Try.prog 6 #[.int .i64 v, .slice A b.length c] w fun e w' => e = .returned (.bool true) ∧ Below w.heap.size w w' := by
  obtain ⟨M, hM⟩ : ∃ x, decM v b = x := ⟨_, rfl⟩
  obtain ⟨E, hE⟩ : ∃ x, decE v b = x := ⟨_, rfl⟩
  have HD : Hid (∀ u, Below w.heap.size w u → Calls Try.prog 24 #[.int .i64 v, .slice A b.length c] u (DecTo M E u)) := hide (fun u h => decode_to hM hE A c w.heap.size u (hr.below h) h.size hc hm)
  have HRD : Hid (∀ u, Below w.heap.size w u → Calls Try.prog 25 #[.int .i64 v, .slice A b.length c] u (DecTo M E u)) := hide (fun u h => rdecode_to hM hE A c w.heap.size u (hr.below h) h.size hc hm)
  have HA := hide (fun u => awake_any u)
  have HM0 := hide (Mem.start w)
  clear hM hE hr hc hm
  go_enter Try.func6, Try.ntmps6
  go_upto_region 2 with (go_at_call 24; (with_reducible refine Calls.mono (unhide HD _ (unhide HM0).below) ?_); go_must ((
     rintro _ u1 ⟨A1, c1, vA1, vc1, rfl, hok, _, hb⟩
     have HK1 := hide hok
     have HM1 := hide ((unhide HM0).called hb)
     clear hok hb)))
  obtain ⟨g1, hg1⟩ : ∃ x, u1.heap.size = x := ⟨_, rfl⟩
  have HM2 := hide ((unhide HM1).new (t := 28) (cs := mcells M A1 c1 vA1 vc1) g1 hg1)
  have HK2 := hide ((unhide HK1).below ((Below.refl _ _).alloc (Nat.le_refl _) (.cells (mcells M A1 c1 vA1 vc1) 28)))
  obtain ⟨w1, hw1⟩ : ∃ u, u1.alloc (.cells (mcells M A1 c1 vA1 vc1) 28) = u := ⟨_, rfl⟩
  have hw1b : u1.alloc (.cells #[.int .i64 M.kind, .int .u64 M.id, .int .u64 M.n, .int .u64 M.ts, .string M.lo, .string M.hi, .slice A1 M.vers.length c1, .slice vA1 M.vec.length vc1, .int .i64 M.cmd.kind, .int .i64 M.cmd.dc, .int .i64 M.cmd.shard, .int .i64 M.cmd.node, .int .i64 M.cmd.mode, .string M.cmd.key] 28) = w1 := hw1
  have hz1 : u1.heap.size ≤ w1.heap.size := by rw [← hw1]; simp
  rw [hw1] at HM2 HK2
  rw [hg1] at HK2 hz1
  rw [hg1, hw1b]
  clear hg1 hw1 hw1b HM1 HK1
  go_upto_region 3 with (go_at_call 25; (with_reducible refine Calls.mono (unhide HRD _ (unhide HM2).below) ?_); go_must ((
     rintro _ u2 ⟨A2, c2, vA2, vc2, rfl, hok, _, hb⟩
     have HJ3 := hide hok
     have HM3 := hide ((unhide HM2).called hb)
     have HK3 := hide ((unhide HK2).below (hb.mono hz1))
     have hz2 := Nat.le_trans hz1 hb.size
     clear hok hb)))
  obtain ⟨g2, hg2⟩ : ∃ x, u2.heap.size = x := ⟨_, rfl⟩
  have HM4 := hide ((unhide HM3).new (t := 28) (cs := mcells M A2 c2 vA2 vc2) g2 hg2)
  have HK4 := hide ((unhide HK3).below (((Below.refl _ _).alloc (Nat.le_refl _) (.cells (mcells M A2 c2 vA2 vc2) 28)).mono hz2))
  have HJ4 := hide ((unhide HJ3).below ((Below.refl _ _).alloc (Nat.le_refl _) (.cells (mcells M A2 c2 vA2 vc2) 28)))
  obtain ⟨w2, hw2⟩ : ∃ u, u2.alloc (.cells (mcells M A2 c2 vA2 vc2) 28) = u := ⟨_, rfl⟩
  have hw2b : u2.alloc (.cells #[.int .i64 M.kind, .int .u64 M.id, .int .u64 M.n, .int .u64 M.ts, .string M.lo, .string M.hi, .slice A2 M.vers.length c2, .slice vA2 M.vec.length vc2, .int .i64 M.cmd.kind, .int .i64 M.cmd.dc, .int .i64 M.cmd.shard, .int .i64 M.cmd.node, .int .i64 M.cmd.mode, .string M.cmd.key] 28) = w2 := hw2
  have hz3 : u2.heap.size ≤ w2.heap.size := by rw [← hw2]; simp
  rw [hw2] at HM4 HK4 HJ4
  rw [hg2] at HJ4 hz3 hz2
  rw [hg2, hw2b]
  clear hg2 hw2 hw2b HM3 HK3 HJ3 HM2 HK2 hz1
  have hEE : (E == E) = true := beq_self_eq_true E
  go_wp2_with (first
    | (go_at_call 13; (with_reducible refine Calls.mono (unhide HA _) ?_); go_must ((
       rintro _ u5 ⟨rfl, hb⟩
       have HM5 := hide ((unhide HM4).called hb)
       have HK5 := hide ((unhide HK4).below (hb.mono (by omega)))
       have HJ5 := hide ((unhide HJ4).below (hb.mono hz3))
       have hz5 := hb.size
       obtain ⟨x0, x1, x2, x3, x4, x5, x6, x7, x8, x9, x10, x11, x12, x13⟩ := mAt (unhide HM5).blk1
       obtain ⟨y0, y1, y2, y3, y4, y5, y6, y7, y8, y9, y10, y11, y12, y13⟩ := mAt (unhide HM5).blk0
       clear hb)))
    | (go_at_call 19; go_must ((
       refine Calls.mono (same_msg M M true (by simp) A1 c1 vA1 vc1 A2 c2 vA2 vc2 _ _ _ (unhide HK5) (unhide HJ5) (by omega) (by omega)) ?_
       rintro _ u6 ⟨rfl, hb⟩
       have HM6 := hide ((unhide HM5).called hb)
       clear hb))))
  go_ret
  exact ⟨rfl, (unhide HM6).below⟩
end Go.Proofs.Ytkgacehnpdijaaa
