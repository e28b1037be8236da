/- The document's Check. -/
import Derived.Test.YtkgacehnpdijaaaWireChkP
namespace Go.Proofs.Ytkgacehnpdijaaa
set_option linter.unusedVariables false
open Go.RowKit Wire

theorem chkV_k {v : Vr} (h : 16 < v.key.size ∨ 64 < v.val.size) : chkV v = 6 := by unfold chkV; rw [size_list', size_list', if_pos h]
theorem chkV_n {v : Vr} (h : ¬ (16 < v.key.size ∨ 64 < v.val.size)) : chkV v = if v.dc < 0 ∨ 4 ≤ v.dc ∨ v.tx < 0 ∨ 1073741824 < v.tx then 1 else 0 := by unfold chkV; rw [size_list', size_list', if_neg h]
set_option maxHeartbeats 4000000 in
set_option maxRecDepth 20000 in
theorem rcheck_any (m : Ms) (A : Option Addr) (c : Nat) (vA : Option Addr) (vc : Nat) (B : Nat) (w : World) (hok : Mq.Ok ⟨m, A, c, vA, vc⟩ w B) (hB : B ≤ w.heap.size) : Calls Try.prog 18 #[.agg (mcells m A c vA vc)] w fun e w' => e = .returned (.int .i64 (chkOf m)) ∧ Below w.heap.size w w' := by
  have HM0 := hide ((Mem.start w).new (t := 28) (cs := mcells m A c vA vc) w.heap.size rfl)
  have HV := hide (hok.vers.more hB)
  obtain ⟨w1, hw1⟩ : ∃ u, w.alloc (.cells (mcells m A c vA vc) 28) = u := ⟨_, rfl⟩
  rw [hw1] at HM0
  obtain ⟨f0, f1, f2, f3, f4, f5, f6, f7, f8, f9, f10, f11, f12, f13⟩ := mAt (unhide HM0).blk0
  clear hok
  show Calls _ _ #[.agg #[.int .i64 m.kind, .int .u64 m.id, .int .u64 m.n, .int .u64 m.ts, .string m.lo, .string m.hi, .slice A m.vers.length c, .slice vA m.vec.length vc, .int .i64 m.cmd.kind, .int .i64 m.cmd.dc, .int .i64 m.cmd.shard, .int .i64 m.cmd.node, .int .i64 m.cmd.mode, .string m.cmd.key]] _ _
  by_cases hk : m.kind < 1 ∨ 26 < m.kind
  · rw [chkOf_k hk]
    rcases (show m.kind < 1 ∨ ¬ m.kind < 1 ∧ 26 < m.kind by omega) with g1 | ⟨g1, g2⟩
    all_goals
      clear hk
      go_enter Try.func18, Try.ntmps18
      go_wp2_with fail
      go_ret
      exact ⟨rfl, (unhide HM0).below⟩
  by_cases hl : 16 < m.lo.size ∨ 16 < m.hi.size ∨ 4096 < m.vers.length
  · rw [chkOf_l hk hl]
    have g1 : ¬ m.kind < 1 := by omega
    have g2 : ¬ 26 < m.kind := by omega
    rcases (show (16 : Int) < (m.lo.size : Int) ∨ ¬ (16 : Int) < (m.lo.size : Int) ∧ (16 : Int) < (m.hi.size : Int) ∨ ¬ (16 : Int) < (m.lo.size : Int) ∧ ¬ (16 : Int) < (m.hi.size : Int) ∧ (4096 : Int) < (m.vers.length : Int) by omega) with g3 | ⟨g3, g4⟩ | ⟨g3, g4, g5⟩
    all_goals
      clear hk hl
      go_enter Try.func18, Try.ntmps18
      go_wp2_with fail
      go_ret
      exact ⟨rfl, (unhide HM0).below⟩
  have HR := hide (chkOf_v hk hl)
  have g1 : ¬ m.kind < 1 := by omega
  have g2 : ¬ 26 < m.kind := by omega
  have g3 : ¬ (16 : Int) < (m.lo.size : Int) := by omega
  have g4 : ¬ (16 : Int) < (m.hi.size : Int) := by omega
  have g5 : ¬ (4096 : Int) < (m.vers.length : Int) := by omega
  clear hk hl
  obtain ⟨R, hR⟩ : ∃ R, chkOf m = R := ⟨_, rfl⟩
  rw [hR] at HR ⊢
  clear hR
  go_enter Try.func18, Try.ntmps18
  go_wp2_with fail
  go_loopw [3] (fun i wr => ∃ k : Nat, k ≤ m.vers.length ∧ i = .int .i64 k ∧ chkL m.vers = chkL (m.vers.drop k) ∧ Mem w wr [(w.heap.size, 28, mcells m A c vA vc)]) (fun i _ => m.vers.length - (intOf i).toNat)
  case atStart => exact ⟨0, by omega, rfl, by simp, unhide HM0⟩
  case round =>
    obtain ⟨k, hkl, rfl, hd, hmm⟩ := hrel
    have HMr := hide hmm
    have HD := hide hd
    clear f0 f1 f2 f3 f4 f5 f6 f7 f8 f9 f10 f11 f12 f13 hmm hd
    obtain ⟨f0, f1, f2, f3, f4, f5, f6, f7, f8, f9, f10, f11, f12, f13⟩ := mAt (unhide HMr).blk0
    have hgl := (unhide HMr).blk0.lt
    by_cases hlt : k < m.vers.length
    · clear f0 f1 f2 f3 f4 f5 f7 f8 f9 f10 f11 f12 f13
      obtain ⟨v, hv⟩ : ∃ v, m.vers[k]? = some v := ⟨m.vers[k], List.getElem?_eq_getElem hlt⟩
      obtain ⟨ad, hA, _, a0, a1, a2, a3, a4, a5⟩ := verAt ((unhide HV).below (unhide HMr).below) hv
      subst hA
      have HM4 := hide ((unhide HMr).other (.cells #[.string v.key, .string v.val, .bool v.gone, .int .u64 v.ts, .int .i64 v.dc, .int .i64 v.tx] 49))
      by_cases h1 : 16 < v.key.size ∨ 64 < v.val.size
      · have hz := chkV_k h1
        obtain rfl : R = 6 := by
          have h1 := unhide HR
          rw [unhide HD, chkL_hit hv (by rw [hz]; decide), hz, if_pos (by decide)] at h1
          exact h1
        rcases (show (16 : Int) < (v.key.size : Int) ∨ ¬ (16 : Int) < (v.key.size : Int) ∧ (64 : Int) < (v.val.size : Int) by omega) with j1 | ⟨j1, j2⟩
        all_goals
          clear hv hz HD HR h1
          go_wp2_with fail
          go_ret
          exact ⟨rfl, (unhide HM4).below⟩
      have hz := chkV_n h1
      have j1 : ¬ (16 : Int) < (v.key.size : Int) := by omega
      have j2 : ¬ (64 : Int) < (v.val.size : Int) := by omega
      clear h1
      by_cases h2 : v.dc < 0 ∨ 4 ≤ v.dc ∨ v.tx < 0 ∨ 1073741824 < v.tx
      · rw [if_pos h2] at hz
        obtain rfl : R = 1 := by
          have h1 := unhide HR
          rw [unhide HD, chkL_hit hv (by rw [hz]; decide), hz, if_pos (by decide)] at h1
          exact h1
        rcases (show v.dc < 0 ∨ ¬ v.dc < 0 ∧ 3 < v.dc ∨ ¬ v.dc < 0 ∧ ¬ 3 < v.dc ∧ v.tx < 0 ∨ ¬ v.dc < 0 ∧ ¬ 3 < v.dc ∧ ¬ v.tx < 0 ∧ 1073741824 < v.tx by omega) with j3 | ⟨j3, j4⟩ | ⟨j3, j4, j5⟩ | ⟨j3, j4, j5, j6⟩
        all_goals
          clear hv hz HD HR h2
          go_wp2_with fail
          go_ret
          exact ⟨rfl, (unhide HM4).below⟩
      · rw [if_neg h2] at hz
        have HN := hide ((unhide HD).trans (chkL_drop hv hz))
        have j3 : ¬ v.dc < 0 := by omega
        have j4 : ¬ 3 < v.dc := by omega
        have j5 : ¬ v.tx < 0 := by omega
        have j6 : ¬ 1073741824 < v.tx := by omega
        clear hv hz HD HR h2
        go_wp2_with fail
        exact ⟨⟨k + 1, by omega, by go_num, unhide HN, unhide HM4⟩, by simp [intOf]; omega⟩
    · obtain rfl : k = m.vers.length := by omega
      have hres : R = chkZ m := by
        have h1 := unhide HR
        rw [unhide HD, List.drop_length] at h1
        exact h1
      clear HR HD
      by_cases hv : (32 : Int) < (m.vec.length : Int)
      · obtain rfl : R = 6 := by rw [hres]; unfold chkZ; rw [if_pos (by omega)]
        clear hres
        go_wp2_with fail
        go_ret
        exact ⟨rfl, (unhide HMr).below⟩
      have HZ : Hid (R = if m.cmd.nums.any badN = true then 1 else if 16 < m.cmd.key.data.toList.length then 6 else 0) := by show _ = _; rw [hres]; unfold chkZ; rw [if_neg (by omega)]
      clear hres
      have HNC : Hid (∀ u, Calls Try.prog 34 #[.agg #[.int .i64 m.cmd.kind, .int .i64 m.cmd.dc, .int .i64 m.cmd.shard, .int .i64 m.cmd.node, .int .i64 m.cmd.mode, .string m.cmd.key]] u fun e w' => ∃ g, e = .returned (.slice (some ⟨g, 0, none⟩) 5 5) ∧ Blk w' g 3 (numCells m.cmd) ∧ Below u.heap.size u w') := fun u => rnums_any m.cmd u
      go_wp2_with (go_at_call 34; refine (unhide HNC _).mono ?_; rintro _ w5 ⟨g, rfl, hblk, hb5⟩
                   have HM5 := hide ((unhide HMr).called hb5); clear hb5)
      clear f0 f1 f2 f3 f4 f5 f6 f7 f8 f9 f10 f11 f12
      have f13' := (mAt (unhide HM5).blk0).2.2.2.2.2.2.2.2.2.2.2.2.2
      have i0 : w5.cell? ⟨g, 0, none⟩ = some (.int .i64 m.cmd.kind) := hblk.cell 0
      have i1 : w5.cell? ⟨g, 1, none⟩ = some (.int .i64 m.cmd.dc) := hblk.cell 1
      have i2 : w5.cell? ⟨g, 2, none⟩ = some (.int .i64 m.cmd.shard) := hblk.cell 2
      have i3 : w5.cell? ⟨g, 3, none⟩ = some (.int .i64 m.cmd.node) := hblk.cell 3
      have i4 : w5.cell? ⟨g, 4, none⟩ = some (.int .i64 m.cmd.mode) := hblk.cell 4
      clear f13 hblk
      go_loopw [6] (fun i wx => ∃ k : Nat, k ≤ 5 ∧ i = .int .i64 k ∧ m.cmd.nums.any badN = (m.cmd.nums.drop k).any badN ∧ w5 = wx) (fun i _ => 5 - (intOf i).toNat)
      case atStart => exact ⟨0, by omega, rfl, rfl, rfl⟩
      case round =>
        obtain ⟨k, hk5, rfl, hd, rfl⟩ := hrel
        have HD := hide hd
        clear hd
        by_cases h5 : k = 5
        · subst h5
          have hz : R = if 16 < m.cmd.key.size then 6 else 0 := by
            have h1 := unhide HZ
            rw [unhide HD] at h1
            rw [h1, size_list', if_neg (by simp [Cm.nums])]
          by_cases hkey : (16 : Int) < (m.cmd.key.size : Int)
          · have hz2 : R = 6 := by rw [hz, if_pos (by omega)]
            subst hz2
            clear hz HZ
            go_wp2_with fail
            go_ret
            exact ⟨rfl, (unhide HM5).below⟩
          · have hz2 : R = 0 := by rw [hz, if_neg (by omega)]
            subst hz2
            clear hz HZ
            go_wp2_with fail
            go_ret
            exact ⟨rfl, (unhide HM5).below⟩
        · clear f13'
          obtain rfl | rfl | rfl | rfl | rfl : k = 0 ∨ k = 1 ∨ k = 2 ∨ k = 3 ∨ k = 4 := by omega
          ·
            rcases badN_cases (n := m.cmd.kind) with ⟨hb, hn⟩ | ⟨hb, hn, hn2⟩ | ⟨hb, hn, hn2⟩
            · have hz : R = 1 := by rw [unhide HZ, unhide HD, badN_hit m.cmd 0 m.cmd.kind rfl hb, if_pos rfl]
              subst hz
              clear hb HZ HD
              go_wp2_with fail
              go_ret
              exact ⟨rfl, (unhide HM5).below⟩
            · have hz : R = 1 := by rw [unhide HZ, unhide HD, badN_hit m.cmd 0 m.cmd.kind rfl hb, if_pos rfl]
              subst hz
              clear hb HZ HD
              go_wp2_with fail
              go_ret
              exact ⟨rfl, (unhide HM5).below⟩
            · have HN := hide ((unhide HD).trans (badN_drop m.cmd 0 m.cmd.kind rfl hb))
              clear hb HD
              go_wp2_with fail
              exact ⟨⟨1, by omega, rfl, unhide HN, by trivial⟩, by simp [intOf]⟩
          ·
            rcases badN_cases (n := m.cmd.dc) with ⟨hb, hn⟩ | ⟨hb, hn, hn2⟩ | ⟨hb, hn, hn2⟩
            · have hz : R = 1 := by rw [unhide HZ, unhide HD, badN_hit m.cmd 1 m.cmd.dc rfl hb, if_pos rfl]
              subst hz
              clear hb HZ HD
              go_wp2_with fail
              go_ret
              exact ⟨rfl, (unhide HM5).below⟩
            · have hz : R = 1 := by rw [unhide HZ, unhide HD, badN_hit m.cmd 1 m.cmd.dc rfl hb, if_pos rfl]
              subst hz
              clear hb HZ HD
              go_wp2_with fail
              go_ret
              exact ⟨rfl, (unhide HM5).below⟩
            · have HN := hide ((unhide HD).trans (badN_drop m.cmd 1 m.cmd.dc rfl hb))
              clear hb HD
              go_wp2_with fail
              exact ⟨⟨2, by omega, rfl, unhide HN, by trivial⟩, by simp [intOf]⟩
          ·
            rcases badN_cases (n := m.cmd.shard) with ⟨hb, hn⟩ | ⟨hb, hn, hn2⟩ | ⟨hb, hn, hn2⟩
            · have hz : R = 1 := by rw [unhide HZ, unhide HD, badN_hit m.cmd 2 m.cmd.shard rfl hb, if_pos rfl]
              subst hz
              clear hb HZ HD
              go_wp2_with fail
              go_ret
              exact ⟨rfl, (unhide HM5).below⟩
            · have hz : R = 1 := by rw [unhide HZ, unhide HD, badN_hit m.cmd 2 m.cmd.shard rfl hb, if_pos rfl]
              subst hz
              clear hb HZ HD
              go_wp2_with fail
              go_ret
              exact ⟨rfl, (unhide HM5).below⟩
            · have HN := hide ((unhide HD).trans (badN_drop m.cmd 2 m.cmd.shard rfl hb))
              clear hb HD
              go_wp2_with fail
              exact ⟨⟨3, by omega, rfl, unhide HN, by trivial⟩, by simp [intOf]⟩
          ·
            rcases badN_cases (n := m.cmd.node) with ⟨hb, hn⟩ | ⟨hb, hn, hn2⟩ | ⟨hb, hn, hn2⟩
            · have hz : R = 1 := by rw [unhide HZ, unhide HD, badN_hit m.cmd 3 m.cmd.node rfl hb, if_pos rfl]
              subst hz
              clear hb HZ HD
              go_wp2_with fail
              go_ret
              exact ⟨rfl, (unhide HM5).below⟩
            · have hz : R = 1 := by rw [unhide HZ, unhide HD, badN_hit m.cmd 3 m.cmd.node rfl hb, if_pos rfl]
              subst hz
              clear hb HZ HD
              go_wp2_with fail
              go_ret
              exact ⟨rfl, (unhide HM5).below⟩
            · have HN := hide ((unhide HD).trans (badN_drop m.cmd 3 m.cmd.node rfl hb))
              clear hb HD
              go_wp2_with fail
              exact ⟨⟨4, by omega, rfl, unhide HN, by trivial⟩, by simp [intOf]⟩
          ·
            rcases badN_cases (n := m.cmd.mode) with ⟨hb, hn⟩ | ⟨hb, hn, hn2⟩ | ⟨hb, hn, hn2⟩
            · have hz : R = 1 := by rw [unhide HZ, unhide HD, badN_hit m.cmd 4 m.cmd.mode rfl hb, if_pos rfl]
              subst hz
              clear hb HZ HD
              go_wp2_with fail
              go_ret
              exact ⟨rfl, (unhide HM5).below⟩
            · have hz : R = 1 := by rw [unhide HZ, unhide HD, badN_hit m.cmd 4 m.cmd.mode rfl hb, if_pos rfl]
              subst hz
              clear hb HZ HD
              go_wp2_with fail
              go_ret
              exact ⟨rfl, (unhide HM5).below⟩
            · have HN := hide ((unhide HD).trans (badN_drop m.cmd 4 m.cmd.mode rfl hb))
              clear hb HD
              go_wp2_with fail
              exact ⟨⟨5, by omega, rfl, unhide HN, by trivial⟩, by simp [intOf]⟩
end Go.Proofs.Ytkgacehnpdijaaa
