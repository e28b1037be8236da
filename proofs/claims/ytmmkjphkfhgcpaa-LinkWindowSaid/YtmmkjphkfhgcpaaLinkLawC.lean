/- The walk of LinkWindow. -/
import Derived.Test.YtmmkjphkfhgcpaaLinkCalls
import Derived.Lib.SmallJoins
namespace Go.Proofs.Ytmmkjphkfhgcpaa
set_option linter.unusedVariables false
open Go.RowKit

theorem umod (x m : Int) (h0 : 0 < m) (hm : m < 9223372036854775807) : ∃ N : Nat, wrap64 ((IntKind.u64.wrap x).tmod m) = N ∧ (N : Int) < m := by
  have h := wrap_u64_nonneg x
  have e : (IntKind.u64.wrap x).tmod m = IntKind.u64.wrap x % m := Int.tmod_eq_emod_of_nonneg h
  have h1 := Int.emod_nonneg (IntKind.u64.wrap x) (show m ≠ 0 by omega)
  have h2 := Int.emod_lt_of_pos (IntKind.u64.wrap x) h0
  refine ⟨(IntKind.u64.wrap x % m).toNat, ?_, by omega⟩
  rw [e]
  unfold wrap64
  omega

set_option maxHeartbeats 4000000 in
set_option maxRecDepth 20000 in
theorem linkWindow_any (ep n0 a0 : Int) (w : World) (he : -9223372036854775808 ≤ ep ∧ ep ≤ 9223372036854775807) (hn : -9223372036854775808 ≤ n0 ∧ n0 ≤ 9223372036854775807) (ha : -9223372036854775808 ≤ a0 ∧ a0 ≤ 9223372036854775807) :
    Calls Try.prog 7 #[.int .i64 ep, .int .i64 n0, .int .i64 a0] w fun e w' => e = .returned (.bool true) ∧ Below w.heap.size w w' := by
  have HN := hide (new_e ep w)
  have HA := hide awake_any
  go_enter Try.func7, Try.ntmps7
  go_wp2_with (go_at_call 10; refine (unhide HN).mono ?_; rintro _ w1 ⟨p, rfl, he1, hm1, hbel1⟩; have HE1 := hide he1; have HM1 := hide hm1; have HB1 := hide hbel1; clear he1 hm1 hbel1)
  obtain ⟨N, hN, hN60⟩ := umod n0 60 (by omega) (by omega)
  rw [hN]
  clear hN
  go_loopw [21] (fun i wr => ∃ (k : Nat) (s : LS), k ≤ N ∧ i = .int .i64 k ∧ EndAt wr p s ∧ Mine w.heap.size p s ∧ Below w.heap.size w wr ∧ s.ep = ep ∧ s.r.length = k ∧ s.sent = 0 ∧ s.got = 0 ∧ s.n = 0 ∧ s.M = fun _ => none) (fun i _ => N - (intOf i).toNat)
  case atStart => exact ⟨0, _, by omega, rfl, unhide HE1, unhide HM1, unhide HB1, rfl, rfl, rfl, rfl, rfl, rfl⟩
  case round =>
    obtain ⟨k, s, hk, rfl, h1, h2, h3, h4, h5, h6, h7, h7a, h8⟩ := hrel
    have HE := hide h1; have HM := hide h2; have HB := hide h3
    clear h1 h2 h3 HE1 HM1 HB1
    by_cases hlt : k < N
    · have HS := hide (send_end p s [UInt8.ofNat k] (some ⟨wr.heap.size, 0, none⟩) 1 (wr.heap.size + 1) (wr.alloc (.cells #[Value.int .u8 k] 5)) ((unhide HE).new ((Below.refl _ _).alloc (Nat.le_refl _) _)) (by omega) (by simp)
        (RdB.new wr #[Value.int .u8 k] 5 (0, 0) [UInt8.ofNat k] (by simp [Bv]; omega)) (by simp))
      go_wp2_with (go_at_call 11; refine (unhide HS).mono ?_; rintro _ w2 ⟨rfl, wv, x, hx, hst⟩)
      obtain ⟨hb2, hm2⟩ := hst.below ((unhide HB).alloc (unhide HB).size (.cells #[Value.int .u8 k] 5)) (by have := (unhide HB).size; simp; omega) (unhide HM)
      refine ⟨⟨k + 1, _, by omega, by go_num, hst.at_, hm2, hb2, h4, by simp [h5], h6, h7, h7a, h8⟩, by simp [intOf]; omega⟩
    · obtain rfl : k = N := by omega
      have HOUT := hide (out_end p s wr (unhide HE) (by omega) (by omega) (by omega))
      obtain ⟨M, hM, hM40⟩ := umod a0 40 (by omega) (by omega)
      obtain ⟨i0, hi, hz0, hz1, hz2⟩ := info_parts u8info
      have hmk := fun u : World => run_make (P := Try.prog) u 22 5 i0 (.int .u8 0) Try.underlying22 hi hz0 .i64 .i64 1048577 1048577 (by omega) (Int.le_refl _) (by rw [hz2]; omega) (by omega)
      have hmin : Hid (min k 16 = if 16 < k then 16 else k) := hide (by split <;> omega)
      go_upto_region 17 with (first
        | (go_at_call 12; refine (unhide HOUT).mono ?_; rintro _ w3 ⟨k1, Ao, co, q, rfl, hk1, hql, hqm, hrow, hlq, hbel3, hst3, hnb⟩
           have HE3 := hide ((unhide HE).new hbel3); have HB3 := hide ((unhide HB).trans (hbel3.mono (unhide HB).size)); clear hrow hlq hbel3 hst3 hqm hnb)
        | (go_at_call 19; first | refine (waiting_end p s _ (unhide HE3)).mono ?_ | refine (waiting_end p s _ (unhide HE4)).mono ?_
           rintro _ w4 ⟨rfl, rfl⟩; rw [h5])
        | (go_at_call 11; refine (send_long p _ 1048577 1048577 _ (by omega) (by omega)).mono ?_; rintro _ w4 ⟨rfl, rfl⟩
           have HE4 := hide ((unhide HE3).new ((Below.refl _ _).alloc (Nat.le_refl _) (.cells (madeCells #[Value.int .u8 0] 1048577) 5)))))
      all_goals
        have hcv := Go.Joins.run_convert_bytes_const_at (P := Try.prog) (w3.alloc (.cells (madeCells #[Value.int .u8 0] 1048577) 5)) 22 5 #[Value.int .u8 120] 1 1 (w3.heap.size + 1) (by simp) Try.underlying22 Try.underlying5
        have hinv : Inv s 60 := ⟨by omega, by omega, by omega, by omega, by omega, by omega, fun c hc => by rw [h8] at hc; cases hc⟩
        have HB5 := hide (((unhide HB3).alloc (unhide HB3).size (.cells (madeCells #[Value.int .u8 0] 1048577) 5)).alloc (by have := (unhide HB3).size; simp; omega) (.cells #[Value.int .u8 120] 5 (1, 2)))
        have HE5 := hide ((unhide HE4).new ((Below.refl _ _).alloc (Nat.le_refl _) (.cells #[Value.int .u8 120] 5 (1, 2))))
        have hpl := (unhide HE4).blk.lt
        have HIN := hide (in_end p s 60 0 ep (M + 1) 0 (some ⟨(w3.alloc (.cells (madeCells #[Value.int .u8 0] 1048577) 5)).heap.size, 0, none⟩) [120] 1 _ (unhide HE5) hinv (by omega)
          (fun u hu => (RdB.only (B := (w3.alloc (.cells (madeCells #[Value.int .u8 0] 1048577) 5)).heap.size + 1) (RdB.new _ #[Value.int .u8 120] 5 (1, 2) [120] rfl) hu (by simp) (fun ad e h => by injection e with e; subst e; simp at h; simp at hpl; omega)).more (by simp)) (by simp) (by omega) (by omega))
        rw [show (w3.alloc (.cells (madeCells #[Value.int .u8 0] 1048577) 5)).heap.size = w3.heap.size + 1 by simp] at HIN
        go_upto_region 18 with (go_at_call 14; refine (unhide HIN).mono ?_; rintro _ w6 ⟨s', q6, A6, c6, er, rfl, hrow6, _, hst6, _, hin6⟩)
        have hkey : (16 ≤ M ∧ er = 9 ∧ q6.length = 0 ∧ s'.got = 0) ∨ (M < 16 ∧ er = 0 ∧ ((M = 0 ∧ q6.length = 1) ∨ (M ≠ 0 ∧ q6.length = 0))) := by
          rcases hin6 with ⟨h, _⟩ | ⟨_, h, _⟩ | ⟨_, _, _, _, _, _, _, _, hc⟩
          · exact absurd h4.symm h
          · omega
          · rcases hc with ⟨h, _⟩ | ⟨h, g1, g2, g3, _⟩ | ⟨h, g1, g2, g3, M1, hM1, _, hq, hnone⟩
            · omega
            · exact .inl ⟨by omega, g1, by rw [g2]; rfl, by omega⟩
            · refine .inr ⟨by omega, g2, ?_⟩
              obtain ⟨x, rfl⟩ : ∃ x : Body, M1 = upd s.M (M + 1) (some x) := by
                rcases hM1 with ⟨h, _⟩ | ⟨_, x, _, h⟩
                · rw [h8] at h; cases h
                · exact ⟨x, h⟩
              have hother : ∀ c : Int, c ≠ M + 1 → upd s.M (M + 1) (some x) c = none := fun c hc => by rw [upd_other s.M _ hc, h8]
              by_cases hM0 : M = 0
              · refine .inl ⟨hM0, ?_⟩
                rcases Nat.lt_or_ge 1 q6.length with hl | hl
                · have := hq 1 _ (List.getElem?_eq_getElem hl)
                  rw [hother _ (by omega)] at this
                  cases this
                · rcases Nat.eq_zero_or_pos q6.length with h0 | h0
                  · rw [h0, h7, hM0] at hnone
                    simp [upd] at hnone
                  · omega
              · refine .inr ⟨hM0, ?_⟩
                rcases Nat.eq_zero_or_pos q6.length with h0 | h0
                · exact h0
                · have := hq 0 _ (List.getElem?_eq_getElem h0)
                  rw [hother _ (by omega)] at this
                  cases this
        have HST6 := hide hst6
        obtain ⟨hb6, _⟩ := hst6.below (unhide HB5) (unhide HB5).size (unhide HM)
        have HB6 := hide hb6
        have HE6 := hide hst6.at_
        clear hst6 hb6 hin6 hrow6
        obtain ⟨sq, hsq⟩ : ∃ sq : Int, (M : Int) + 1 = sq := ⟨_, rfl⟩
        obtain ⟨ql, hql6⟩ : ∃ ql : Nat, q6.length = ql := ⟨_, rfl⟩
        rw [hsq, hql6]
        rw [hql6] at hkey
        rcases hkey with ⟨e1, rfl, e2, e3⟩ | ⟨e1, rfl, e2⟩
        · have f1 : decide (16 < sq) = true := decide_eq_true (by omega)
          obtain rfl : ql = 0 := by omega
          go_wp2_with (first
            | (go_at_call 15; refine (unhide HA _).mono ?_; rintro _ w7 ⟨rfl, hb7⟩; have HE7 := hide ((unhide HE6).new hb7); have HB7 := hide ((unhide HB6).trans (hb7.mono (unhide HB6).size)); clear hb7)
            | (go_at_call 22; refine (got_end p s' _ (unhide HE7)).mono ?_; rintro _ w8 ⟨rfl, rfl⟩; rw [e3]))
          go_ret
          exact ⟨rfl, unhide HB7⟩
        · have f1 : decide (16 < sq) = false := decide_eq_false (by omega)
          have f2 : ((ql : Int) == 1) = (sq == 1) := by
            rcases e2 with ⟨h, h'⟩ | ⟨h, h'⟩
            · rw [show ql = 1 by omega, show sq = 1 by omega]; rfl
            · rw [show ql = 0 by omega, beq_eq_false_iff_ne.2 (show sq ≠ 1 by omega)]; rfl
          go_wp2_with (go_at_call 15; refine (unhide HA _).mono ?_; rintro _ w7 ⟨rfl, hb7⟩; have HB7 := hide ((unhide HB6).trans (hb7.mono (unhide HB6).size)); clear hb7)
          go_ret
          trace_state
          exact ⟨rfl, unhide HB7⟩
end Go.Proofs.Ytmmkjphkfhgcpaa
