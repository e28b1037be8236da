/- The walk of WireOnly. -/
import Derived.Test.YtkgacehnpdijaaaWireDecA
import Derived.Test.YtkgacehnpdijaaaWireSame
namespace Go.Proofs.Ytkgacehnpdijaaa
set_option linter.unusedVariables false
set_option linter.unusedSimpArgs false
open Go.RowKit Wire

set_option maxHeartbeats 4000000 in
set_option maxRecDepth 20000 in
theorem wireOnly_any (v : Int) (b : List UInt8) (A : Option Addr) (c : Nat) (w : World) (hr : RdB w w.heap.size A b) (hc : b.length ≤ c) (hm : c ≤ 9223372036854775807 ∧ b.length ≤ 140737488351232) : Calls Try.prog 8 #[.int .i64 v, .slice A b.length c] w fun e w' => e = .returned (.bool true) ∧ Below w.heap.size w w' := by
  obtain ⟨M, hM⟩ : ∃ x, decM v b = x := ⟨_, rfl⟩
  obtain ⟨E, hE⟩ : ∃ x, decE v b = x := ⟨_, rfl⟩
  have HD : Hid (∀ u, Below w.heap.size w u → Calls Try.prog 24 #[.int .i64 v, .slice A b.length c] u (DecTo M E u)) := hide (fun u h => decode_to hM hE A c w.heap.size u (hr.below h) h.size hc hm)
  have HA := hide (fun u => awake_any u)
  have HM0 := hide (Mem.start w)
  have HR := hide hr
  have hsay := dec_say hM hE
  have HSAY := hide hsay
  clear hM hE hr hc hm hsay
  go_enter Try.func8, Try.ntmps8
  go_upto_region 2 with (go_at_call 24; (with_reducible refine Calls.mono (unhide HD _ (unhide HM0).below) ?_); go_must ((
     rintro _ u1 ⟨A1, c1, vA1, vc1, rfl, hok, _, hb⟩
     have HK1 := hide hok
     have HM1 := hide ((unhide HM0).called hb)
     clear hok hb)))
  obtain ⟨g1, hg1⟩ : ∃ x, u1.heap.size = x := ⟨_, rfl⟩
  have HM2 := hide ((unhide HM1).new (t := 28) (cs := mcells M A1 c1 vA1 vc1) g1 hg1)
  have HK2 := hide ((unhide HK1).below ((Below.refl _ _).alloc (Nat.le_refl _) (.cells (mcells M A1 c1 vA1 vc1) 28)))
  obtain ⟨w1, hw1⟩ : ∃ u, u1.alloc (.cells (mcells M A1 c1 vA1 vc1) 28) = u := ⟨_, rfl⟩
  have hw1b : u1.alloc (.cells #[.int .i64 M.kind, .int .u64 M.id, .int .u64 M.n, .int .u64 M.ts, .string M.lo, .string M.hi, .slice A1 M.vers.length c1, .slice vA1 M.vec.length vc1, .int .i64 M.cmd.kind, .int .i64 M.cmd.dc, .int .i64 M.cmd.shard, .int .i64 M.cmd.node, .int .i64 M.cmd.mode, .string M.cmd.key] 28) = w1 := hw1
  have hz1 : u1.heap.size ≤ w1.heap.size := by rw [← hw1]; simp
  rw [hw1] at HM2 HK2
  rw [hg1] at HK2 hz1
  rw [hg1, hw1b]
  clear hg1 hw1 hw1b HM1 HK1
  rcases unhide HSAY with ⟨h0, h1⟩ | ⟨hv, h0, h1, h2, h3, h4⟩
  · have ge : (E != 0) = true := by simp [h0]
    have HS : Hid (∀ u, Mq.Ok ⟨M, A1, c1, vA1, vc1⟩ u g1 → g1 ≤ u.heap.size → Calls Try.prog 19 #[.agg #[.int .i64 M.kind, .int .u64 M.id, .int .u64 M.n, .int .u64 M.ts, .string M.lo, .string M.hi, .slice A1 M.vers.length c1, .slice vA1 M.vec.length vc1, .int .i64 M.cmd.kind, .int .i64 M.cmd.dc, .int .i64 M.cmd.shard, .int .i64 M.cmd.node, .int .i64 M.cmd.mode, .string M.cmd.key], .agg zeroMsg] u fun e w' => e = .returned (.bool true) ∧ Below u.heap.size u w') := hide (fun u hk hg => same_msg M ms0 true (by simp [h1]) A1 c1 vA1 vc1 none 0 none 0 g1 0 u hk ⟨RdV.nil, RdV.nil, Nat.le_refl _, by decide, Nat.le_refl _, by decide, (ms0_ok).1, (ms0_ok).2⟩ hg (Nat.zero_le _))
    clear h0 h1
    go_wp2_with (first
      | (go_at_call 13; (with_reducible refine Calls.mono (unhide HA _) ?_); go_must ((
         rintro _ u5 ⟨rfl, hb⟩
         have HM5 := hide ((unhide HM2).called hb)
         have HK5 := hide ((unhide HK2).below (hb.mono hz1))
         have hz5 := Nat.le_trans hz1 hb.size
         obtain ⟨x0, x1, x2, x3, x4, x5, x6, x7, x8, x9, x10, x11, x12, x13⟩ := mAt (unhide HM5).blk0
         clear hb)))
      | (go_at_call 19; (with_reducible refine Calls.mono (unhide HS _ (unhide HK5) hz5) ?_); go_must ((
         rintro _ u6 ⟨rfl, hb⟩
         have HM6 := hide ((unhide HM5).called hb)
         clear hb))))
    go_ret
    exact ⟨rfl, (unhide HM6).below⟩
  · subst h0
    have hE0 : encE v M = 0 := (encE_one hv).trans h2
    have hB0 : encB v M = b := (encB_ok hE0).trans h4.symm
    have HEN : Hid (∀ u, Mq.Ok ⟨M, A1, c1, vA1, vc1⟩ u g1 → g1 ≤ u.heap.size → Calls Try.prog 14 #[.int .i64 v, .agg #[.int .i64 M.kind, .int .u64 M.id, .int .u64 M.n, .int .u64 M.ts, .string M.lo, .string M.hi, .slice A1 M.vers.length c1, .slice vA1 M.vec.length vc1, .int .i64 M.cmd.kind, .int .i64 M.cmd.dc, .int .i64 M.cmd.shard, .int .i64 M.cmd.node, .int .i64 M.cmd.mode, .string M.cmd.key]] u (EncTo 0 b u)) := hide (fun u hk hg => (encode_any v M A1 c1 vA1 vc1 g1 u hk hg).mono fun e w' h => h.to hE0 hB0)
    have HCK : Hid (∀ u, Mq.Ok ⟨M, A1, c1, vA1, vc1⟩ u g1 → g1 ≤ u.heap.size → Calls Try.prog 17 #[.agg #[.int .i64 M.kind, .int .u64 M.id, .int .u64 M.n, .int .u64 M.ts, .string M.lo, .string M.hi, .slice A1 M.vers.length c1, .slice vA1 M.vec.length vc1, .int .i64 M.cmd.kind, .int .i64 M.cmd.dc, .int .i64 M.cmd.shard, .int .i64 M.cmd.node, .int .i64 M.cmd.mode, .string M.cmd.key]] u fun e w' => e = .returned (.int .i64 0) ∧ Below u.heap.size u w') := hide (fun u hk hg => by rw [← h2]; exact check_any M A1 c1 vA1 vc1 g1 u hk hg)
    clear hE0 hB0 h1 h2 h3 h4 hv
    go_wp2_with (first
      | refine wpList_load_blk rfl 28 (.tmp 5) rfl (g1) rfl 28 _ _ ((unhide HM2).blk0) Try.underlying28 rfl (by kernel_rfl) ?_
      | (go_at_call 14; (with_reducible refine Calls.mono (unhide HEN _ (unhide HK2) hz1) ?_); go_must ((
         rintro _ u3 ⟨A3, n3, c3, rfl, hn3, ho3, hb3, hc3⟩
         have HM3 := hide ((unhide HM2).called hb3)
         have HK3 := hide ((unhide HK2).below (hb3.mono hz1))
         have HR3 : Hid (RdB u3 u3.heap.size A3 b) := hide ((RdV.of_own ho3).b)
         have HN3 := hide hn3
         have hz3 := Nat.le_trans hz1 hb3.size
         clear hn3 ho3 hb3 hc3)))
      | (go_at_call 13; (with_reducible refine Calls.mono (unhide HA _) ?_); go_must ((
         rintro _ u5 ⟨rfl, hb⟩
         have HM5 := hide ((unhide HM3).called hb)
         have HK5 := hide ((unhide HK3).below (hb.mono hz3))
         have HR5 := hide ((unhide HR3).below hb)
         have hz5 := hb.size
         obtain ⟨x0, x1, x2, x3, x4, x5, x6, x7, x8, x9, x10, x11, x12, x13⟩ := mAt (unhide HM5).blk0
         clear hb)))
      | (go_at_call 17; (with_reducible refine Calls.mono (unhide HCK _ (unhide HK5) (by omega)) ?_); go_must ((
         rintro _ u6 ⟨rfl, hb⟩
         have HM6 := hide ((unhide HM5).called hb)
         have HR6 := hide ((unhide HR5).below (hb.mono hz5))
         clear hb)))
      | (go_at_call 16; go_must ((
         refine Calls.mono (same_n b b A A3 b.length n3 c c3 _ _ _ ((unhide HR).below (unhide HM6).below) (unhide HR6) rfl (unhide HN3)) ?_
         rintro _ u7 ⟨rfl, rfl⟩
         rw [beq_self_eq_true]))))
    go_ret
    exact ⟨rfl, (unhide HM6).below⟩
end Go.Proofs.Ytkgacehnpdijaaa
