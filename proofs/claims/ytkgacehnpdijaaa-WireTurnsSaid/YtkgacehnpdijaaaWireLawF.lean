/- The walk of WireTurns. -/
import Derived.Test.YtkgacehnpdijaaaWireTurn
namespace Go.Proofs.Ytkgacehnpdijaaa
set_option linter.unusedVariables false
set_option linter.unusedSimpArgs false
open Go.RowKit Wire

set_option maxHeartbeats 4000000 in
set_option maxRecDepth 20000 in
theorem wireTurns_any (f t : Int) (b : List UInt8) (A : Option Addr) (c : Nat) (w : World) (hr : RdB w w.heap.size A b) (hc : b.length ≤ c) (hm : c ≤ 9223372036854775807 ∧ b.length ≤ 140737488351232) : Calls Try.prog 11 #[.int .i64 f, .int .i64 t, .slice A b.length c] w fun e w' => e = .returned (.bool true) ∧ Below w.heap.size w w' := by
  obtain ⟨M, hM⟩ : ∃ x, decM f b = x := ⟨_, rfl⟩
  obtain ⟨E, hE⟩ : ∃ x, decE f b = x := ⟨_, rfl⟩
  obtain ⟨F, hF⟩ : ∃ x, encE t M = x := ⟨_, rfl⟩
  obtain ⟨X, hX⟩ : ∃ x, encB t M = x := ⟨_, rfl⟩
  have HRD := hide (rdecode_to hM hE A c w.heap.size w hr (Nat.le_refl _) hc hm)
  have HT := hide (fun u (h : Below w.heap.size w u) => turn_any f t b A c w.heap.size u (hr.below h) h.size hc hm)
  have HA := hide (fun u => awake_any u)
  have HM0 := hide (Mem.start w)
  have HR := hide hr
  have hsay := dec_say hM hE
  have hbad := fun h => turn_bad (t := t) hE h
  have hgood := fun h => turn_good (t := t) hM (hE.trans h)
  have HSAY := hide hsay; have HBAD := hide hbad; have HGOOD := hide hgood; have HF := hide hF; have HX := hide hX
  clear hM hE hr hc hm hsay hbad hgood hF hX
  go_enter Try.func11, Try.ntmps11
  go_upto_region 2 with (go_at_call 25; (with_reducible refine Calls.mono (unhide HRD) ?_); go_must ((
     rintro _ u1 ⟨A1, c1, vA1, vc1, rfl, hok, _, hb⟩
     have HK1 := hide hok
     have HM1 := hide ((unhide HM0).called hb)
     clear hok hb)))
  obtain ⟨g1, hg1⟩ : ∃ x, u1.heap.size = x := ⟨_, rfl⟩
  have HM2 := hide ((unhide HM1).new (t := 28) (cs := mcells M A1 c1 vA1 vc1) g1 hg1)
  have HK2 := hide ((unhide HK1).below ((Below.refl _ _).alloc (Nat.le_refl _) (.cells (mcells M A1 c1 vA1 vc1) 28)))
  obtain ⟨w1, hw1⟩ : ∃ u, u1.alloc (.cells (mcells M A1 c1 vA1 vc1) 28) = u := ⟨_, rfl⟩
  have hw1b : u1.alloc (.cells #[.int .i64 M.kind, .int .u64 M.id, .int .u64 M.n, .int .u64 M.ts, .string M.lo, .string M.hi, .slice A1 M.vers.length c1, .slice vA1 M.vec.length vc1, .int .i64 M.cmd.kind, .int .i64 M.cmd.dc, .int .i64 M.cmd.shard, .int .i64 M.cmd.node, .int .i64 M.cmd.mode, .string M.cmd.key] 28) = w1 := hw1
  have hz1 : u1.heap.size ≤ w1.heap.size := by rw [← hw1]; simp
  rw [hw1] at HM2 HK2
  rw [hg1] at HK2 hz1
  rw [hg1, hw1b]
  clear hg1 hw1 hw1b HM1 HK1
  have HEN : Hid (∀ u, Mq.Ok ⟨M, A1, c1, vA1, vc1⟩ u g1 → g1 ≤ u.heap.size → Calls Try.prog 15 #[.int .i64 t, .agg #[.int .i64 M.kind, .int .u64 M.id, .int .u64 M.n, .int .u64 M.ts, .string M.lo, .string M.hi, .slice A1 M.vers.length c1, .slice vA1 M.vec.length vc1, .int .i64 M.cmd.kind, .int .i64 M.cmd.dc, .int .i64 M.cmd.shard, .int .i64 M.cmd.node, .int .i64 M.cmd.mode, .string M.cmd.key]] u (EncTo F X u)) := hide (fun u hk hg => (rencode_any t M A1 c1 vA1 vc1 g1 u hk hg).mono fun e w' h => h.to (unhide HF) (unhide HX))
  rcases unhide HSAY with ⟨h0, h1⟩ | ⟨hv, h0, h1, h2, h3, h4⟩
  · have ge : (E != 0) = true := by simp [h0]
    have gf : (E != E) = false := by simp
    have HTU : Hid (∀ u, Below w.heap.size w u → Calls Try.prog 27 #[.int .i64 f, .int .i64 t, .slice A b.length c] u (EncTo E [] u)) := hide (fun u h => by
      have hh := unhide HT u h
      rw [(unhide HBAD h0).1, (unhide HBAD h0).2] at hh
      exact hh)
    clear h0 h1
    go_wp2_with (first
      | refine wpList_load_blk rfl 28 (.tmp 7) rfl (g1) rfl 28 _ _ ((unhide HM2).blk0) Try.underlying28 rfl (by kernel_rfl) ?_
      | (go_at_call 15; (with_reducible refine Calls.mono (unhide HEN _ (unhide HK2) hz1) ?_); go_must ((
         rintro _ u3 ⟨A3, n3, c3, rfl, hn3, ho3, hb3, hc3⟩
         have HM3 := hide ((unhide HM2).called hb3)
         have HX3 : Hid (RdB u3 u3.heap.size A3 X) := hide ((RdV.of_own ho3).b)
         have HN3 := hide hn3
         clear hn3 ho3 hb3 hc3)))
      | (go_at_call 27; (with_reducible refine Calls.mono (unhide HTU _ (unhide HM3).below) ?_); go_must ((
         rintro _ u4 ⟨A4, n4, c4, rfl, hn4, ho4, hb4, hc4⟩
         have HM4 := hide ((unhide HM3).called hb4)
         have HR4 : Hid (RdB u4 u4.heap.size A4 []) := hide ((RdV.of_own ho4).b)
         have HX4 := hide ((unhide HX3).below hb4)
         have HC4 := hide (show n4 ≤ c4 ∧ c4 ≤ 9223372036854775807 from ⟨hc4, (own_caps ho4).2⟩)
         have HN4 := hide hn4
         have hz4 := hb4.size
         clear hn4 ho4 hb4 hc4)))
      | (go_at_call 16; go_must ((
         refine Calls.mono (same_n [] [] A4 none n4 0 c4 0 _ _ _ (unhide HR4) (RdB.nil (B := 0)) (unhide HN4) rfl) ?_
         rintro _ u6 ⟨rfl, rfl⟩
         rw [beq_self_eq_true])))
      | (go_at_call 13; (with_reducible refine Calls.mono (unhide HA _) ?_); go_must ((
         rintro _ u5 ⟨rfl, hb⟩
         have HM5 := hide ((unhide HM4).called hb)
         clear hb))))
    go_ret
    exact ⟨rfl, (unhide HM5).below⟩
  · subst h0
    have gf : (F != F) = false := by simp
    have HTU : Hid (∀ u, Below w.heap.size w u → Calls Try.prog 27 #[.int .i64 f, .int .i64 t, .slice A b.length c] u (EncTo F X u)) := hide (fun u h => by
      have hh := unhide HT u h
      rw [(unhide HGOOD rfl).1, (unhide HGOOD rfl).2, unhide HF, unhide HX] at hh
      exact hh)
    by_cases hF0 : F = 0
    rotate_left
    · have ge : (F != 0) = true := by simp [hF0]
      clear hF0 h1 h2 h3 h4 hv
      go_wp2_with (first
        | refine wpList_load_blk rfl 28 (.tmp 7) rfl (g1) rfl 28 _ _ ((unhide HM2).blk0) Try.underlying28 rfl (by kernel_rfl) ?_
        | (go_at_call 15; (with_reducible refine Calls.mono (unhide HEN _ (unhide HK2) hz1) ?_); go_must ((
         rintro _ u3 ⟨A3, n3, c3, rfl, hn3, ho3, hb3, hc3⟩
         have HM3 := hide ((unhide HM2).called hb3)
         have HX3 : Hid (RdB u3 u3.heap.size A3 X) := hide ((RdV.of_own ho3).b)
         have HN3 := hide hn3
         clear hn3 ho3 hb3 hc3)))
        | (go_at_call 27; (with_reducible refine Calls.mono (unhide HTU _ (unhide HM3).below) ?_); go_must ((
         rintro _ u4 ⟨A4, n4, c4, rfl, hn4, ho4, hb4, hc4⟩
         have HM4 := hide ((unhide HM3).called hb4)
         have HR4 : Hid (RdB u4 u4.heap.size A4 X) := hide ((RdV.of_own ho4).b)
         have HX4 := hide ((unhide HX3).below hb4)
         have HC4 := hide (show n4 ≤ c4 ∧ c4 ≤ 9223372036854775807 from ⟨hc4, (own_caps ho4).2⟩)
         have HN4 := hide hn4
         have hz4 := hb4.size
         clear hn4 ho4 hb4 hc4)))
        | (go_at_call 16; go_must ((
         refine Calls.mono (same_n X X A4 A3 n4 n3 c4 c3 _ _ _ (unhide HR4) (unhide HX4) (unhide HN4) (unhide HN3)) ?_
         rintro _ u6 ⟨rfl, rfl⟩
         rw [beq_self_eq_true])))
        | (go_at_call 13; (with_reducible refine Calls.mono (unhide HA _) ?_); go_must ((
         rintro _ u5 ⟨rfl, hb⟩
         have HM5 := hide ((unhide HM4).called hb)
         clear hb))))
      go_ret
      exact ⟨rfl, (unhide HM5).below⟩
    · subst hF0
      have ht : t = 1 ∨ t = 2 := by
        refine Classical.byContradiction fun h => ?_
        have hh := encE_other (v := t) (m := M) (by omega)
        rw [unhide HF] at hh
        cases hh
      have hX2 : X = encOf t M := (unhide HX).symm.trans (encB_ok (unhide HF))
      have hok2 : (msgC t).ok M := (ok_iff t M).2 ⟨(chk_iff M).1 h2, h3⟩
      have hd2 : decOf t X = .ok M := by rw [hX2]; exact dec_enc hok2
      have hg2 := dec_good ht hd2
      have ht2 := turn_good (t := f) hg2.1 hg2.2
      have hE0 : encE f M = 0 := (encE_one hv).trans h2
      have hB0 : encB f M = b := (encB_ok hE0).trans h4.symm
      rw [hE0, hB0] at ht2
      have hXl : X.length ≤ 830000 := by rw [← unhide HX]; exact encB_len h3
      have HTV : Hid (∀ u A c, RdB u u.heap.size A X → X.length ≤ c → c ≤ 9223372036854775807 → Calls Try.prog 27 #[.int .i64 t, .int .i64 f, .slice A X.length c] u (EncTo 0 b u)) := hide (fun u A c h1 h2 h3 => by
        have hh := turn_any t f X A c u.heap.size u h1 (Nat.le_refl _) h2 ⟨h3, by omega⟩
        rw [ht2.1, ht2.2] at hh
        exact hh)
      clear h1 h2 h3 h4 hv hX2 hok2 hd2 hg2 ht2 hE0 hB0 hXl ht
      go_upto_region 10 with (first
        | refine wpList_load_blk rfl 28 (.tmp 7) rfl (g1) rfl 28 _ _ ((unhide HM2).blk0) Try.underlying28 rfl (by kernel_rfl) ?_
        | (go_at_call 15; (with_reducible refine Calls.mono (unhide HEN _ (unhide HK2) hz1) ?_); go_must ((
         rintro _ u3 ⟨A3, n3, c3, rfl, hn3, ho3, hb3, hc3⟩
         have HM3 := hide ((unhide HM2).called hb3)
         have HX3 : Hid (RdB u3 u3.heap.size A3 X) := hide ((RdV.of_own ho3).b)
         have HN3 := hide hn3
         clear hn3 ho3 hb3 hc3)))
        | (go_at_call 27; (with_reducible refine Calls.mono (unhide HTU _ (unhide HM3).below) ?_); go_must ((
         rintro _ u4 ⟨A4, n4, c4, rfl, hn4, ho4, hb4, hc4⟩
         have HM4 := hide ((unhide HM3).called hb4)
         have HR4 : Hid (RdB u4 u4.heap.size A4 X) := hide ((RdV.of_own ho4).b)
         have HX4 := hide ((unhide HX3).below hb4)
         have HC4 := hide (show n4 ≤ c4 ∧ c4 ≤ 9223372036854775807 from ⟨hc4, (own_caps ho4).2⟩)
         have HN4 := hide hn4
         have hz4 := hb4.size
         clear hn4 ho4 hb4 hc4)))
        | (go_at_call 16; go_must ((
         refine Calls.mono (same_n X X A4 A3 n4 n3 c4 c3 _ _ _ (unhide HR4) (unhide HX4) (unhide HN4) (unhide HN3)) ?_
         rintro _ u6 ⟨rfl, rfl⟩
         rw [beq_self_eq_true]))))
      obtain rfl := unhide HN4
      go_wp2_with (first
        | (go_at_call 27; (with_reducible refine Calls.mono (unhide HTV _ A4 c4 (unhide HR4) (unhide HC4).1 (unhide HC4).2) ?_); go_must ((
           rintro _ u7 ⟨A7, n7, c7, rfl, hn7, ho7, hb7, hc7⟩
           have HM7 := hide ((unhide HM4).called hb7)
           have HR7 : Hid (RdB u7 u7.heap.size A7 b) := hide ((RdV.of_own ho7).b)
           have HN7 := hide hn7
           clear hn7 ho7 hb7 hc7)))
        | (go_at_call 13; (with_reducible refine Calls.mono (unhide HA _) ?_); go_must ((
         rintro _ u5 ⟨rfl, hb⟩
         have HM5 := hide ((unhide HM7).called hb)
         have HR5 := hide ((unhide HR7).below hb)
         clear hb)))
        | (go_at_call 16; go_must ((
         refine Calls.mono (same_n b b A7 A n7 b.length c7 c _ _ _ (unhide HR5) ((unhide HR).below (unhide HM5).below) (unhide HN7) rfl) ?_
         rintro _ u8 ⟨rfl, rfl⟩
         rw [beq_self_eq_true]))))
      go_ret
      exact ⟨rfl, (unhide HM5).below⟩
end Go.Proofs.Ytkgacehnpdijaaa
