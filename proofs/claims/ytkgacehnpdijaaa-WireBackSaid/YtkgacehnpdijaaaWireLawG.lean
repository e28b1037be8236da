/- The walk of WireBack. -/
import Derived.Test.YtkgacehnpdijaaaWireTurn
namespace Go.Proofs.Ytkgacehnpdijaaa
set_option linter.unusedVariables false
set_option linter.unusedSimpArgs false
open Go.RowKit Wire

set_option maxHeartbeats 8000000 in
set_option maxRecDepth 20000 in
theorem wireBack_any (m : Ms) (A : Option Addr) (c : Nat) (vA : Option Addr) (vc : Nat) (x : UInt8) (w : World) (hok : Mq.Ok ⟨m, A, c, vA, vc⟩ w w.heap.size) : Calls Try.prog 7 #[.agg (mcells m A c vA vc), .int .u8 (x.toNat : Int)] w fun e w' => e = .returned (.bool true) ∧ Below w.heap.size w w' := by
  have HM0 := hide ((Mem.start w).new (t := 28) (cs := mcells m A c vA vc) w.heap.size rfl)
  obtain ⟨w1, hw1⟩ : ∃ u, w.alloc (.cells (mcells m A c vA vc) 28) = u := ⟨_, rfl⟩
  obtain ⟨g, hgs⟩ : ∃ g, w.heap.size = g := ⟨_, rfl⟩
  rw [hw1, hgs] at HM0
  have HGS := hide hgs
  have HOK := hide hok
  have HRG : Hid (Rng m) := hide hok.rng
  obtain ⟨gr, hgr⟩ : ∃ r, greatB m = r := ⟨_, rfl⟩
  obtain ⟨ck, hck⟩ : ∃ r, chkOf m = r := ⟨_, rfl⟩
  have HGR : Hid (∀ u, Calls Try.prog 12 #[.agg #[.int .i64 m.kind, .int .u64 m.id, .int .u64 m.n, .int .u64 m.ts, .string m.lo, .string m.hi, .slice A m.vers.length c, .slice vA m.vec.length vc, .int .i64 m.cmd.kind, .int .i64 m.cmd.dc, .int .i64 m.cmd.shard, .int .i64 m.cmd.node, .int .i64 m.cmd.mode, .string m.cmd.key]] u fun e w' => e = .returned (.bool gr) ∧ Below u.heap.size u w') := hide (fun u => by rw [← hgr]; exact great_any m A c vA vc u)
  have HCK : Hid (∀ u, Below g w u → Calls Try.prog 17 #[.agg #[.int .i64 m.kind, .int .u64 m.id, .int .u64 m.n, .int .u64 m.ts, .string m.lo, .string m.hi, .slice A m.vers.length c, .slice vA m.vec.length vc, .int .i64 m.cmd.kind, .int .i64 m.cmd.dc, .int .i64 m.cmd.shard, .int .i64 m.cmd.node, .int .i64 m.cmd.mode, .string m.cmd.key]] u fun e w' => e = .returned (.int .i64 ck) ∧ Below u.heap.size u w') := hide (fun u h => by rw [← hck]; rw [← hgs] at h; exact check_any m A c vA vc w.heap.size u (hok.below h) h.size)
  have HA := hide (fun u => awake_any u)
  have HCKV := hide hck
  clear hok hgr hck
  show Calls _ _ #[.agg #[.int .i64 m.kind, .int .u64 m.id, .int .u64 m.n, .int .u64 m.ts, .string m.lo, .string m.hi, .slice A m.vers.length c, .slice vA m.vec.length vc, .int .i64 m.cmd.kind, .int .i64 m.cmd.dc, .int .i64 m.cmd.shard, .int .i64 m.cmd.node, .int .i64 m.cmd.mode, .string m.cmd.key], .int .u8 (x.toNat : Int)] _ _
  obtain ⟨x0, x1, x2, x3, x4, x5, x6, x7, x8, x9, x10, x11, x12, x13⟩ := mAt (unhide HM0).blk0
  cases gr
  rotate_left
  · go_enter Try.func7, Try.ntmps7
    go_wp2_with (first
      | (go_at_call 12; (with_reducible refine Calls.mono (unhide HGR _) ?_); go_must ((
         rintro _ u1 ⟨rfl, hb⟩
         have HM1 := hide ((unhide HM0).called hb)
         clear hb)))
      | (go_at_call 13; (with_reducible refine Calls.mono (unhide HA _) ?_); go_must ((
         rintro _ u2 ⟨rfl, hb⟩
         have HM2 := hide ((unhide HM1).called hb)
         clear hb))))
    go_ret
    exact ⟨rfl, by have h := (unhide HM2).below; first | exact h | (rw [unhide HGS] at h; exact h)⟩
  by_cases hc0 : ck = 0
  rotate_left
  · have gc : (ck != 0) = true := by simp [hc0]
    clear hc0
    go_enter Try.func7, Try.ntmps7
    go_wp2_with (first
      | (go_at_call 12; (with_reducible refine Calls.mono (unhide HGR _) ?_); go_must ((
         rintro _ u1 ⟨rfl, hb⟩
         have HM1 := hide ((unhide HM0).called hb)
         obtain ⟨x0, x1, x2, x3, x4, x5, x6, x7, x8, x9, x10, x11, x12, x13⟩ := mAt (unhide HM1).blk0
         clear hb)))
      | (go_at_call 17; (with_reducible refine Calls.mono (unhide HCK _ (by have h := (unhide HM1).below; first | exact h | (rw [unhide HGS] at h; exact h))) ?_); go_must ((
         rintro _ u3 ⟨rfl, hb⟩
         have HM3 := hide ((unhide HM1).called hb)
         clear hb)))
      | (go_at_call 13; (with_reducible refine Calls.mono (unhide HA _) ?_); go_must ((
         rintro _ u2 ⟨rfl, hb⟩
         have HM2 := hide ((unhide HM3).called hb)
         clear hb))))
    go_ret
    exact ⟨rfl, by have h := (unhide HM2).below; first | exact h | (rw [unhide HGS] at h; exact h)⟩
  subst hc0
  obtain ⟨i0, hi, hz0, hz1, hz2⟩ := info_parts u8info
  go_enter Try.func7, Try.ntmps7
  go_upto_region 4 with (first
    | (go_at_call 12; (with_reducible refine Calls.mono (unhide HGR _) ?_); go_must ((
       rintro _ u1 ⟨rfl, hb⟩
       have HM1 := hide ((unhide HM0).called hb)
       obtain ⟨x0, x1, x2, x3, x4, x5, x6, x7, x8, x9, x10, x11, x12, x13⟩ := mAt (unhide HM1).blk0
       clear hb)))
    | (go_at_call 17; (with_reducible refine Calls.mono (unhide HCK _ (by have h := (unhide HM1).below; first | exact h | (rw [unhide HGS] at h; exact h))) ?_); go_must ((
       rintro _ u3 ⟨rfl, hb⟩
       have HM3 := hide ((unhide HM1).called hb)
       clear hb))))
  clear hgs hw1 x0 x1 x2 x3 x4 x5 x6 x7 x8 x9 x10 x11 x12 x13 HM0 HM1
  go_loopw [5] (fun i wr => ∃ k : Nat, 1 ≤ k ∧ k ≤ 3 ∧ i = .int .i64 k ∧ Mem w wr [(g, 28, mcells m A c vA vc)]) (fun i _ => 3 - (intOf i).toNat)
  case atStart => exact ⟨1, by omega, by omega, rfl, unhide HM3⟩
  case round =>
    obtain ⟨k, hk1, hk3, rfl, hmem⟩ := hrel
    clear HM3
    have HM3 := hide hmem
    clear hmem
    obtain ⟨x0, x1, x2, x3, x4, x5, x6, x7, x8, x9, x10, x11, x12, x13⟩ := mAt (unhide HM3).blk0
    by_cases hlt : k ≤ 2
    rotate_left
    · go_wp2_with (go_at_call 13; (with_reducible refine Calls.mono (unhide HA _) ?_); go_must ((
         rintro _ u2 ⟨rfl, hb⟩
         have HM2 := hide ((unhide HM3).called hb)
         clear hb)))
      go_ret
      exact ⟨rfl, (unhide HM2).below⟩
    -- [r
    have hv : (k : Int) = 1 ∨ (k : Int) = 2 := by omega
    have hE0 : encE k m = 0 := (encE_one hv).trans (unhide HCKV)
    obtain ⟨L, hL⟩ : ∃ L, encOf k m = L := ⟨_, rfl⟩
    have hB0 : encB k m = L := (encB_ok hE0).trans hL
    have hLl : L.length ≤ 830000 := by rw [← hB0]; exact encB_len (unhide HRG)
    have hLp : 0 < L.length := by rw [← hL]; exact encOf_pos hv (unhide HRG)
    obtain ⟨n, hn⟩ : ∃ n, L.length = n + 1 := ⟨L.length - 1, by omega⟩
    have d1 := enc_dec hv (unhide HCKV) (unhide HRG)
    have d2 := enc_dec_more hv (unhide HCKV) (unhide HRG) x
    have d3 := enc_dec_cut hv (unhide HCKV) (unhide HRG) (n := n) (by rw [hL]; exact hn)
    rw [hL] at d1 d2 d3
    have hnl : n ≤ 830000 := by omega
    have HEN : Hid (∀ u, Below g w u → Calls Try.prog 14 #[.int .i64 k, .agg #[.int .i64 m.kind, .int .u64 m.id, .int .u64 m.n, .int .u64 m.ts, .string m.lo, .string m.hi, .slice A m.vers.length c, .slice vA m.vec.length vc, .int .i64 m.cmd.kind, .int .i64 m.cmd.dc, .int .i64 m.cmd.shard, .int .i64 m.cmd.node, .int .i64 m.cmd.mode, .string m.cmd.key]] u (EncTo 0 L u)) := hide (fun u h => by rw [← unhide HGS] at h; exact (encode_any k m A c vA vc w.heap.size u ((unhide HOK).below h) h.size).mono fun e w' hh => hh.to hE0 hB0)
    have HD1 : Hid (∀ u A c, RdB u u.heap.size A L → n + 1 ≤ c → c ≤ 9223372036854775807 → Calls Try.prog 24 #[.int .i64 k, .slice A (n + 1) c] u (DecTo m 0 u)) := hide (fun u A c h1 h2 h3 => decode_n d1.1 d1.2 A c u.heap.size (n + 1) hn u h1 (Nat.le_refl _) h2 ⟨h3, by omega⟩)
    have HD2 : Hid (∀ u A c, RdB u u.heap.size A (L ++ [x]) → n + 1 + 1 ≤ c → c ≤ 9223372036854775807 → Calls Try.prog 24 #[.int .i64 k, .slice A (n + 1 + 1) c] u (DecTo ms0 3 u)) := hide (fun u A c h1 h2 h3 => decode_n d2.1 d2.2 A c u.heap.size (n + 1 + 1) (by simp [hn]) u h1 (Nat.le_refl _) h2 ⟨h3, by omega⟩)
    obtain ⟨E3, hE3⟩ : ∃ E, decE k (L.take n) = E := ⟨_, rfl⟩
    have HD3 : Hid (∀ u A c, RdB u u.heap.size A (L.take n) → n ≤ c → c ≤ 9223372036854775807 → Calls Try.prog 24 #[.int .i64 k, .slice A n c] u (DecTo ms0 E3 u)) := hide (fun u A c h1 h2 h3 => decode_n d3.1 hE3 A c u.heap.size n (by rw [List.length_take]; omega) u h1 (Nat.le_refl _) h2 ⟨h3, by omega⟩)
    have g3 : (E3 == 0) = false := by have h := d3.2; rw [hE3] at h; simp [h]
    have HN := hide hn
    clear hE0 hB0 hLl hLp hn d1 d2 d3 hE3 hL
    go_upto_region 8 with (first
      | (go_at_call 14; (with_reducible refine Calls.mono (unhide HEN _ (by have h := (unhide HM3).below; first | exact h | (rw [unhide HGS] at h; exact h))) ?_); go_must ((
         rintro _ u4 ⟨A4, n4, c4, rfl, hn4, ho4, hb4, hc4⟩
         rw [unhide HN] at hn4
         subst hn4
         have HM4 := hide ((unhide HM3).called hb4)
         have HR4 : Hid (RdB u4 u4.heap.size A4 L) := hide ((RdV.of_own ho4).b)
         have HC4 := hide (show n + 1 ≤ c4 ∧ c4 ≤ 9223372036854775807 from ⟨hc4, (own_caps ho4).2⟩)
         clear ho4 hb4 hc4)))
      | (go_at_call 24; (with_reducible refine Calls.mono (unhide HD1 _ A4 c4 (unhide HR4) (unhide HC4).1 (unhide HC4).2) ?_); go_must ((
         rintro _ u5 ⟨A8, c8, vA8, vc8, rfl, hok, _, hb⟩
         have HM5 := hide ((unhide HM4).called hb)
         have HR5 := hide ((unhide HR4).below hb)
         have HK5 := hide hok
         have hz5 := hb.size
         clear hb hok))))
    obtain ⟨g8, hg8⟩ : ∃ x, u5.heap.size = x := ⟨_, rfl⟩
    have HM6 := hide ((unhide HM5).new (t := 28) (cs := mcells m A8 c8 vA8 vc8) g8 hg8)
    have HK6 := hide ((unhide HK5).below ((Below.refl _ _).alloc (Nat.le_refl _) (.cells (mcells m A8 c8 vA8 vc8) 28)))
    have HR6 := hide ((unhide HR5).below (((Below.refl _ _).alloc (Nat.le_refl _) (.cells (mcells m A8 c8 vA8 vc8) 28)).mono hz5))
    obtain ⟨y1, hy1⟩ : ∃ u, u5.alloc (.cells (mcells m A8 c8 vA8 vc8) 28) = u := ⟨_, rfl⟩
    have hy1b : u5.alloc (.cells #[.int .i64 m.kind, .int .u64 m.id, .int .u64 m.n, .int .u64 m.ts, .string m.lo, .string m.hi, .slice A8 m.vers.length c8, .slice vA8 m.vec.length vc8, .int .i64 m.cmd.kind, .int .i64 m.cmd.dc, .int .i64 m.cmd.shard, .int .i64 m.cmd.node, .int .i64 m.cmd.mode, .string m.cmd.key] 28) = y1 := hy1
    have hzy : u5.heap.size ≤ y1.heap.size := by rw [← hy1]; simp
    rw [hy1] at HM6 HK6 HR6
    rw [hg8] at HK6 hzy hz5
    rw [hg8, hy1b]
    clear hg8 hy1 hy1b HM5 HK5 HR5 HM4 HR4
    obtain ⟨x0, x1, x2, x3, x4, x5, x6, x7, x8, x9, x10, x11, x12, x13⟩ := mAt (unhide HM6).blk1
    obtain ⟨z0, z1, z2, z3, z4, z5, z6, z7, z8, z9, z10, z11, z12, z13⟩ := mAt (unhide HM6).blk0
    go_upto_region 10 with (go_at_call 19; go_must ((
       refine Calls.mono (same_msg m m true (by simp) A c vA vc A8 c8 vA8 vc8 _ _ _ ((unhide HOK).below (unhide HM6).below) (unhide HK6) (unhide HM6).below.size hzy) ?_
       rintro _ u7 ⟨rfl, hb⟩
       have HM7 := hide ((unhide HM6).called hb)
       have HR7 := hide ((unhide HR6).below (hb.mono (by omega)))
       have hz7 := hb.size
       clear hb)))
    clear x0 x1 x2 x3 x4 x5 x6 x7 x8 x9 x10 x11 x12 x13 z0 z1 z2 z3 z4 z5 z6 z7 z8 z9 z10 z11 z12 z13
    have hz8 : u4.heap.size ≤ u7.heap.size := by omega
    have hsw := (unhide HM7).below.size
    have htwo : ∀ p ∈ ([(g8, 28, mcells m A8 c8 vA8 vc8), (g, 28, mcells m A c vA vc)] : List (Nat × TypeId × Array Value)), p.1 < u7.heap.size := by
      intro p hp
      simp only [List.mem_cons, List.not_mem_nil, or_false] at hp
      rcases hp with rfl | rfl
      · exact (unhide HM7).blk0.lt
      · exact (unhide HM7).blk1.lt
    have HTWO := hide htwo
    clear htwo
    have HOn : Hid ((u7.alloc (.cells #[] 5)).ownsRow u7.heap.size 5 1 (.slice (some ⟨u7.heap.size, 0, none⟩) 0 0) 0 []) := hide (own_new u7 u7.heap.size #[] 5 0 [] (Nat.le_refl _) (by simp [maxLen]) rfl rfl)
    have HMa := hide ((unhide HM7).other (.cells #[] 5))
    have HRa := hide ((unhide HR7).below (((Below.refl _ _).alloc (Nat.le_refl _) (.cells #[] 5)).mono hz8))
    have hza : u7.heap.size ≤ (u7.alloc (.cells #[] 5)).heap.size := by simp
    go_upto_region 11 with (first
      | (at_builtin
         refine wpList_append_any _ rfl (.tmp 57) (.tmp 58) _ rfl u7.heap.size 5 i0 _ 1 1 Try.underlying31 hi hz0 hz1 hz2 rfl (by omega) _ 0 [] rfl (unhide HOn) _ A4 (n + 1) c4 _ rfl (unhide HRa).v (by rw [List.length_map, unhide HN]; omega) oneCell_Bv (by simp only [maxLen]; omega) (by omega) hza ?_
         intro A9 c9 u9 hown9 hg9 hat9 hbel9 hcc9
         rw [Nat.zero_add, List.nil_append] at hown9
         rw [Nat.zero_add] at hcc9 ⊢
         have HO9 := hide hown9
         have HM9 := hide ((unhide HMa).low hbel9 (unhide HTWO) hsw)
         have HR9 := hide ((unhide HRa).below (hbel9.mono hz8))
         have hz9 : u7.heap.size ≤ u9.heap.size := Nat.le_trans hza hbel9.size
         clear hown9 hg9 hat9 hbel9)
      | (at_builtin
         refine wpList_append_any _ rfl (.tmp 59) (.tmp 61) _ rfl u7.heap.size 5 i0 _ 1 1 Try.underlying31 hi hz0 hz1 hz2 rfl (by omega) (.slice A9 (n + 1) c9) (n + 1) _ rfl ((unhide HO9).alloc _) _ (some ⟨u9.heap.size, 0, none⟩) 1 1 ([x].map Bv) rfl (rdV_new u9 #[Bv x] _ _) (by simp) oneCell_Bv (by simp only [maxLen]; omega) (by omega) (by simp; omega) ?_
         intro A10 c10 u10 hown10 hg10 hat10 hbel10 hcc10
         rw [← List.map_append] at hown10
         have HO10 := hide hown10
         have HM10 := hide (((unhide HM9).other (.cells #[Bv x] 5)).low hbel10 (unhide HTWO) hsw)
         have HR10 := hide (((unhide HR9).below (((Below.refl _ _).alloc (Nat.le_refl _) (.cells #[Bv x] 5)).mono (by omega))).below (hbel10.mono hz8))
         have hz10 : u9.heap.size ≤ u10.heap.size := Nat.le_trans (by simp) hbel10.size
         have HC10 := hide (show n + 1 + 1 ≤ c10 ∧ c10 ≤ 9223372036854775807 from ⟨hcc10, (own_caps hown10).2⟩)
         clear hown10 hg10 hat10 hbel10)
      | (go_at_call 24; (with_reducible refine Calls.mono (unhide HD2 _ A10 c10 ((RdV.of_own (unhide HO10)).b) (unhide HC10).1 (unhide HC10).2) ?_); go_must ((
         rintro _ u11 ⟨A11, c11, vA11, vc11, rfl, hok, _, hb⟩
         have HM11 := hide ((unhide HM10).called hb)
         have hz11 := hb.size
         have HR11 := hide ((unhide HR10).below (hb.mono (by omega)))
         clear hb hok))))
    have HR12 : Hid (∀ o, RdB (u11.alloc o) (u11.alloc o).heap.size A4 (L.take n)) := hide (fun o => (((unhide HR11).below (((Below.refl _ u11).alloc (Nat.le_refl _) o).mono (by omega))).more (by simp; omega)).take n)
    have hc4 := (unhide HC4).1
    have hc4b := (unhide HC4).2
    have s1 : (0 : Int) ≤ (n : Int) := by omega
    have s2 : (n : Int) ≤ (c4 : Int) := by omega
    have s3 : n ≤ c4 := by omega
    clear HO9 HO10 HOn HMa HRa
    go_wp2_with (go_at_call 24; (with_reducible refine Calls.mono (unhide HD3 _ A4 c4 (unhide HR12 _) s3 hc4b) ?_); go_must ((
       rintro _ u13 ⟨A13, c13, vA13, vc13, rfl, hok, _, hb⟩
       have HM13 := hide (((unhide HM11).other _).called hb)
       clear hb hok)))
    exact ⟨⟨k + 1, by omega, by omega, by simp, (unhide HM13).tail.other _⟩, by simp only [intOf]; omega⟩
    -- r]
end Go.Proofs.Ytkgacehnpdijaaa
