/- wire.Check. -/
import Derived.Test.YtkgacehnpdijaaaWireVerAt
namespace Go.Proofs.Ytkgacehnpdijaaa
set_option linter.unusedVariables false
open Go.RowKit Wire

theorem idx5 (c : Cm) (w : World) : (Instr.index 54 (.agg #[.int .i64 c.kind, .int .i64 c.dc, .int .i64 c.shard, .int .i64 c.node, .int .i64 c.mode]) (.int .i64 0)).run Try.prog w = .ok (.int .i64 c.kind) w ∧ (Instr.index 54 (.agg #[.int .i64 c.kind, .int .i64 c.dc, .int .i64 c.shard, .int .i64 c.node, .int .i64 c.mode]) (.int .i64 1)).run Try.prog w = .ok (.int .i64 c.dc) w ∧ (Instr.index 54 (.agg #[.int .i64 c.kind, .int .i64 c.dc, .int .i64 c.shard, .int .i64 c.node, .int .i64 c.mode]) (.int .i64 2)).run Try.prog w = .ok (.int .i64 c.shard) w ∧ (Instr.index 54 (.agg #[.int .i64 c.kind, .int .i64 c.dc, .int .i64 c.shard, .int .i64 c.node, .int .i64 c.mode]) (.int .i64 3)).run Try.prog w = .ok (.int .i64 c.node) w ∧ (Instr.index 54 (.agg #[.int .i64 c.kind, .int .i64 c.dc, .int .i64 c.shard, .int .i64 c.node, .int .i64 c.mode]) (.int .i64 4)).run Try.prog w = .ok (.int .i64 c.mode) w := ⟨by kernel_rfl, by kernel_rfl, by kernel_rfl, by kernel_rfl, by kernel_rfl⟩
/-- the numbers from the k-th on -/
theorem badN_drop (c : Cm) (k : Nat) (n : Int) (h : c.nums[k]? = some n) (hb : badN n = false) : (c.nums.drop k).any badN = (c.nums.drop (k + 1)).any badN := by
  rw [List.drop_eq_getElem?_toList_append, h]
  show (n :: c.nums.drop (k + 1)).any badN = _
  rw [List.any_cons, hb, Bool.false_or]
theorem badN_hit (c : Cm) (k : Nat) (n : Int) (h : c.nums[k]? = some n) (hb : badN n = true) : (c.nums.drop k).any badN = true := by
  rw [List.drop_eq_getElem?_toList_append, h]
  show (n :: c.nums.drop (k + 1)).any badN = _
  rw [List.any_cons, hb, Bool.true_or]
theorem badN_cases {n : Int} : (badN n = true ∧ n < 0) ∨ (badN n = true ∧ ¬ n < 0 ∧ 255 < n) ∨ (badN n = false ∧ ¬ n < 0 ∧ ¬ 255 < n) := by
  unfold badN
  by_cases h1 : n < 0
  · exact .inl ⟨by simp [h1], h1⟩
  · by_cases h2 : 255 < n
    · exact .inr (.inl ⟨by simp [h2], h1, h2⟩)
    · exact .inr (.inr ⟨by simp [h1, h2], h1, h2⟩)
set_option maxHeartbeats 4000000 in
set_option maxRecDepth 20000 in
theorem check_any (m : Ms) (A : Option Addr) (c : Nat) (vA : Option Addr) (vc : Nat) (B : Nat) (w : World) (hok : Mq.Ok ⟨m, A, c, vA, vc⟩ w B) (hB : B ≤ w.heap.size) : Calls Try.prog 17 #[.agg (mcells m A c vA vc)] w fun e w' => e = .returned (.int .i64 (chkOf m)) ∧ Below w.heap.size w w' := by
  have HM0 := hide ((Mem.start w).new (t := 28) (cs := mcells m A c vA vc) w.heap.size rfl)
  have HV := hide (hok.vers.more hB)
  have HOK := hide hok
  obtain ⟨w1, hw1⟩ : ∃ u, w.alloc (.cells (mcells m A c vA vc) 28) = u := ⟨_, rfl⟩
  have hvr := unhide HV
  have hb1 : Below w.heap.size w w1 := by rw [← hw1]; exact (Below.refl _ _).alloc (Nat.le_refl _) _
  rw [hw1] at HM0
  obtain ⟨f0, f1, f2, f3, f4, f5, f6, f7, f8, f9, f10, f11, f12, f13⟩ := mAt (unhide HM0).blk0
  have HB1 := hide hb1
  clear hok hvr hb1
  show Calls _ _ #[.agg #[.int .i64 m.kind, .int .u64 m.id, .int .u64 m.n, .int .u64 m.ts, .string m.lo, .string m.hi, .slice A m.vers.length c, .slice vA m.vec.length vc, .int .i64 m.cmd.kind, .int .i64 m.cmd.dc, .int .i64 m.cmd.shard, .int .i64 m.cmd.node, .int .i64 m.cmd.mode, .string m.cmd.key]] _ _
  by_cases hk : m.kind < 1 ∨ 26 < m.kind
  · rw [chkOf_k hk]
    rcases (show m.kind < 1 ∨ ¬ m.kind < 1 ∧ 26 < m.kind by omega) with g1 | ⟨g1, g2⟩
    all_goals
      clear hk
      go_enter Try.func17, Try.ntmps17
      go_wp2_with fail
      go_ret
      exact ⟨rfl, (unhide HM0).below⟩
  by_cases hl : 16 < m.lo.size ∨ 16 < m.hi.size ∨ 4096 < m.vers.length
  · rw [chkOf_l hk hl]
    have g1 : ¬ m.kind < 1 := by omega
    have g2 : ¬ 26 < m.kind := by omega
    rcases (show (16 : Int) < (m.lo.size : Int) ∨ ¬ (16 : Int) < (m.lo.size : Int) ∧ (16 : Int) < (m.hi.size : Int) ∨ ¬ (16 : Int) < (m.lo.size : Int) ∧ ¬ (16 : Int) < (m.hi.size : Int) ∧ (4096 : Int) < (m.vers.length : Int) by omega) with g3 | ⟨g3, g4⟩ | ⟨g3, g4, g5⟩
    all_goals
      clear hk hl
      go_enter Try.func17, Try.ntmps17
      go_wp2_with fail
      go_ret
      exact ⟨rfl, (unhide HM0).below⟩
  have HR := hide (chkOf_v hk hl)
  have g1 : ¬ m.kind < 1 := by omega
  have g2 : ¬ 26 < m.kind := by omega
  have g3 : ¬ (16 : Int) < (m.lo.size : Int) := by omega
  have g4 : ¬ (16 : Int) < (m.hi.size : Int) := by omega
  have g5 : ¬ (4096 : Int) < (m.vers.length : Int) := by omega
  clear hk hl
  obtain ⟨R, hR⟩ : ∃ R, chkOf m = R := ⟨_, rfl⟩
  rw [hR] at HR ⊢
  clear hR
  go_enter Try.func17, Try.ntmps17
  go_wp2_with fail
  go_loopw [35] (fun i wr => ∃ k : Nat, k ≤ m.vers.length ∧ i = .int .i64 k ∧ chkL m.vers = chkL (m.vers.drop k) ∧ Mem w wr [(w.heap.size, 28, mcells m A c vA vc)]) (fun i _ => m.vers.length - (intOf i).toNat)
  case atStart => exact ⟨0, by omega, rfl, by simp, unhide HM0⟩
  case round =>
    obtain ⟨k, hkl, rfl, hd, hmm⟩ := hrel
    have HMr := hide hmm
    have HD := hide hd
    clear f0 f1 f2 f3 f4 f5 f6 f7 f8 f9 f10 f11 f12 f13 hmm hd
    by_cases hlt : k < m.vers.length
    · obtain ⟨v, hv⟩ : ∃ v, m.vers[k]? = some v := ⟨m.vers[k], List.getElem?_eq_getElem hlt⟩
      obtain ⟨ad, hA, _, a0, a1, a2, a3, a4, a5⟩ := verAt ((unhide HV).below (unhide HMr).below) hv
      subst hA
      have HC := hide (version_any v)
      by_cases hz : chkV v = 0
      · have HN := hide ((unhide HD).trans (chkL_drop hv hz))
        have hcv : ∀ u : World, Calls Try.prog 32 #[.agg #[.string v.key, .string v.val, .bool v.gone, .int .u64 v.ts, .int .i64 v.dc, .int .i64 v.tx]] u fun e w' => e = .returned (.int .i64 0) ∧ Below u.heap.size u w' := fun u => by rw [← hz]; exact unhide HC u
        have HC2 := hide hcv
        clear hv hz hcv HD HC
        go_wp2_with (go_at_call 32; refine (unhide HC2 _).mono ?_; rintro _ w4 ⟨rfl, hb4⟩
                     have HM4 := hide (((unhide HMr).other (.cells #[.string v.key, .string v.val, .bool v.gone, .int .u64 v.ts, .int .i64 v.dc, .int .i64 v.tx] 49)).called hb4); clear hb4)
        exact ⟨⟨k + 1, by omega, by go_num, unhide HN, unhide HM4⟩, by simp [intOf]; omega⟩
      · have hres : R = chkV v := by
          have h1 := unhide HR
          rw [unhide HD, chkL_hit hv hz, if_pos hz] at h1
          exact h1
        have g6 : (chkV v != 0) = true := by simp [hz]
        have hcv : ∀ u : World, Calls Try.prog 32 #[.agg #[.string v.key, .string v.val, .bool v.gone, .int .u64 v.ts, .int .i64 v.dc, .int .i64 v.tx]] u fun e w' => e = .returned (.int .i64 (chkV v)) ∧ Below u.heap.size u w' := unhide HC
        have HC2 := hide hcv
        clear hv hz hcv HD HC HR
        subst hres
        go_wp2_with (go_at_call 32; refine (unhide HC2 _).mono ?_; rintro _ w4 ⟨rfl, hb4⟩
                     have HM4 := hide (((unhide HMr).other (.cells #[.string v.key, .string v.val, .bool v.gone, .int .u64 v.ts, .int .i64 v.dc, .int .i64 v.tx] 49)).called hb4); clear hb4)
        go_ret
        exact ⟨rfl, (unhide HM4).below⟩
    · obtain rfl : k = m.vers.length := by omega
      have hres : R = chkZ m := by
        have h1 := unhide HR
        rw [unhide HD, List.drop_length] at h1
        exact h1
      clear HR HD
      obtain ⟨f0, f1, f2, f3, f4, f5, f6, f7, f8, f9, f10, f11, f12, f13⟩ := mAt (unhide HMr).blk0
      have hgl := (unhide HMr).blk0.lt
      by_cases hv : (32 : Int) < (m.vec.length : Int)
      · obtain rfl : R = 6 := by rw [hres]; unfold chkZ; rw [if_pos (by omega)]
        clear hres
        go_wp2_with fail
        go_ret
        exact ⟨rfl, (unhide HMr).below⟩
      have HZ : Hid (R = if m.cmd.nums.any badN = true then 1 else if 16 < m.cmd.key.data.toList.length then 6 else 0) := by show _ = _; rw [hres]; unfold chkZ; rw [if_neg (by omega)]
      clear hres
      have HNC : Hid (∀ u, Calls Try.prog 33 #[.agg #[.int .i64 m.cmd.kind, .int .i64 m.cmd.dc, .int .i64 m.cmd.shard, .int .i64 m.cmd.node, .int .i64 m.cmd.mode, .string m.cmd.key]] u fun e w' => e = .returned (.agg #[.int .i64 m.cmd.kind, .int .i64 m.cmd.dc, .int .i64 m.cmd.shard, .int .i64 m.cmd.node, .int .i64 m.cmd.mode]) ∧ Below u.heap.size u w') := fun u => numbers_any m.cmd u
      go_wp2_with (go_at_call 33; refine (unhide HNC _).mono ?_; rintro _ w5 ⟨rfl, hb5⟩
                   have HM5 := hide ((unhide HMr).called hb5); clear hb5)
      clear f0 f1 f2 f3 f4 f5 f6 f7 f8 f9 f10 f11 f12
      have f13' := (mAt (unhide HM5).blk0).2.2.2.2.2.2.2.2.2.2.2.2.2
      clear f13
      go_loopw [52] (fun i wx => ∃ k : Nat, k ≤ 5 ∧ i = .int .i64 k ∧ m.cmd.nums.any badN = (m.cmd.nums.drop k).any badN ∧ w5 = wx) (fun i _ => 5 - (intOf i).toNat)
      case atStart => exact ⟨0, by omega, rfl, rfl, rfl⟩
      case round =>
        obtain ⟨k, hk5, rfl, hd, rfl⟩ := hrel
        have HD := hide hd
        clear hd
        by_cases h5 : k = 5
        · subst h5
          have hz : R = if 16 < m.cmd.key.size then 6 else 0 := by
            have h1 := unhide HZ
            rw [unhide HD] at h1
            rw [h1, size_list', if_neg (by simp [Cm.nums])]
          by_cases hkey : (16 : Int) < (m.cmd.key.size : Int)
          · have hz2 : R = 6 := by rw [hz, if_pos (by omega)]
            subst hz2
            clear hz HZ
            go_wp2_with fail
            go_ret
            exact ⟨rfl, (unhide HM5).below⟩
          · have hz2 : R = 0 := by rw [hz, if_neg (by omega)]
            subst hz2
            clear hz HZ
            go_wp2_with fail
            go_ret
            exact ⟨rfl, (unhide HM5).below⟩
        · obtain ⟨i0, i1, i2, i3, i4⟩ := idx5 m.cmd w5
          clear f13'
          obtain rfl | rfl | rfl | rfl | rfl : k = 0 ∨ k = 1 ∨ k = 2 ∨ k = 3 ∨ k = 4 := by omega
          ·
            rcases badN_cases (n := m.cmd.kind) with ⟨hb, hn⟩ | ⟨hb, hn, hn2⟩ | ⟨hb, hn, hn2⟩
            · have hz : R = 1 := by rw [unhide HZ, unhide HD, badN_hit m.cmd 0 m.cmd.kind rfl hb, if_pos rfl]
              subst hz
              clear hb HZ HD
              go_wp2_with fail
              go_ret
              exact ⟨rfl, (unhide HM5).below⟩
            · have hz : R = 1 := by rw [unhide HZ, unhide HD, badN_hit m.cmd 0 m.cmd.kind rfl hb, if_pos rfl]
              subst hz
              clear hb HZ HD
              go_wp2_with fail
              go_ret
              exact ⟨rfl, (unhide HM5).below⟩
            · have HN := hide ((unhide HD).trans (badN_drop m.cmd 0 m.cmd.kind rfl hb))
              clear hb HD
              go_wp2_with fail
              exact ⟨⟨1, by omega, rfl, unhide HN, by trivial⟩, by simp [intOf]⟩
          ·
            rcases badN_cases (n := m.cmd.dc) with ⟨hb, hn⟩ | ⟨hb, hn, hn2⟩ | ⟨hb, hn, hn2⟩
            · have hz : R = 1 := by rw [unhide HZ, unhide HD, badN_hit m.cmd 1 m.cmd.dc rfl hb, if_pos rfl]
              subst hz
              clear hb HZ HD
              go_wp2_with fail
              go_ret
              exact ⟨rfl, (unhide HM5).below⟩
            · have hz : R = 1 := by rw [unhide HZ, unhide HD, badN_hit m.cmd 1 m.cmd.dc rfl hb, if_pos rfl]
              subst hz
              clear hb HZ HD
              go_wp2_with fail
              go_ret
              exact ⟨rfl, (unhide HM5).below⟩
            · have HN := hide ((unhide HD).trans (badN_drop m.cmd 1 m.cmd.dc rfl hb))
              clear hb HD
              go_wp2_with fail
              exact ⟨⟨2, by omega, rfl, unhide HN, by trivial⟩, by simp [intOf]⟩
          ·
            rcases badN_cases (n := m.cmd.shard) with ⟨hb, hn⟩ | ⟨hb, hn, hn2⟩ | ⟨hb, hn, hn2⟩
            · have hz : R = 1 := by rw [unhide HZ, unhide HD, badN_hit m.cmd 2 m.cmd.shard rfl hb, if_pos rfl]
              subst hz
              clear hb HZ HD
              go_wp2_with fail
              go_ret
              exact ⟨rfl, (unhide HM5).below⟩
            · have hz : R = 1 := by rw [unhide HZ, unhide HD, badN_hit m.cmd 2 m.cmd.shard rfl hb, if_pos rfl]
              subst hz
              clear hb HZ HD
              go_wp2_with fail
              go_ret
              exact ⟨rfl, (unhide HM5).below⟩
            · have HN := hide ((unhide HD).trans (badN_drop m.cmd 2 m.cmd.shard rfl hb))
              clear hb HD
              go_wp2_with fail
              exact ⟨⟨3, by omega, rfl, unhide HN, by trivial⟩, by simp [intOf]⟩
          ·
            rcases badN_cases (n := m.cmd.node) with ⟨hb, hn⟩ | ⟨hb, hn, hn2⟩ | ⟨hb, hn, hn2⟩
            · have hz : R = 1 := by rw [unhide HZ, unhide HD, badN_hit m.cmd 3 m.cmd.node rfl hb, if_pos rfl]
              subst hz
              clear hb HZ HD
              go_wp2_with fail
              go_ret
              exact ⟨rfl, (unhide HM5).below⟩
            · have hz : R = 1 := by rw [unhide HZ, unhide HD, badN_hit m.cmd 3 m.cmd.node rfl hb, if_pos rfl]
              subst hz
              clear hb HZ HD
              go_wp2_with fail
              go_ret
              exact ⟨rfl, (unhide HM5).below⟩
            · have HN := hide ((unhide HD).trans (badN_drop m.cmd 3 m.cmd.node rfl hb))
              clear hb HD
              go_wp2_with fail
              exact ⟨⟨4, by omega, rfl, unhide HN, by trivial⟩, by simp [intOf]⟩
          ·
            rcases badN_cases (n := m.cmd.mode) with ⟨hb, hn⟩ | ⟨hb, hn, hn2⟩ | ⟨hb, hn, hn2⟩
            · have hz : R = 1 := by rw [unhide HZ, unhide HD, badN_hit m.cmd 4 m.cmd.mode rfl hb, if_pos rfl]
              subst hz
              clear hb HZ HD
              go_wp2_with fail
              go_ret
              exact ⟨rfl, (unhide HM5).below⟩
            · have hz : R = 1 := by rw [unhide HZ, unhide HD, badN_hit m.cmd 4 m.cmd.mode rfl hb, if_pos rfl]
              subst hz
              clear hb HZ HD
              go_wp2_with fail
              go_ret
              exact ⟨rfl, (unhide HM5).below⟩
            · have HN := hide ((unhide HD).trans (badN_drop m.cmd 4 m.cmd.mode rfl hb))
              clear hb HD
              go_wp2_with fail
              exact ⟨⟨5, by omega, rfl, unhide HN, by trivial⟩, by simp [intOf]⟩
end Go.Proofs.Ytkgacehnpdijaaa
