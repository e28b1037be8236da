/- The walk of WireSpoilt. -/
import Derived.Test.YtkgacehnpdijaaaWireTurn
namespace Go.Proofs.Ytkgacehnpdijaaa
set_option linter.unusedVariables false
set_option linter.unusedSimpArgs false
open Go.RowKit Wire

theorem Mem.far {W w : World} {L : Known} {g i : Nat} {v : Value} (h : Mem W w L) (hB : W.heap.size ≤ g) (hne : ∀ p ∈ L, p.1 ≠ g) : Mem W (w.setCell ⟨g, i, none⟩ v) L :=
  ⟨h.below.setCell hB _, fun p hp => (h.blk p hp).far (hne p hp) _, h.ge, h.apart⟩
theorem xor_b8 (x y : UInt8) : bits BinOp.xor IntKind.u8 (x.toNat : Int) (y.toNat : Int) = ((x ^^^ y).toNat : Int) := by
  have hx := x.toNat_lt
  have hy := y.toNat_lt
  rw [u8_xor_nat _ _ (by omega) (by omega), UInt8.toNat_xor]
theorem xor_ne {x y : UInt8} (h : y ≠ 0) : x ^^^ y ≠ x := fun e => h (by
  have h2 : x ^^^ (x ^^^ y) = x ^^^ x := by rw [e]
  rw [← UInt8.xor_assoc, UInt8.xor_self, UInt8.zero_xor] at h2
  exact h2)
set_option maxHeartbeats 8000000 in
set_option maxRecDepth 20000 in
theorem wireSpoilt_any (v : Int) (m : Ms) (A : Option Addr) (c : Nat) (vA : Option Addr) (vc : Nat) (at_ : Int) (mask : UInt8) (w : World) (hok : Mq.Ok ⟨m, A, c, vA, vc⟩ w w.heap.size) : Calls Try.prog 9 #[.int .i64 v, .agg (mcells m A c vA vc), .int .i64 at_, .int .u8 (mask.toNat : Int)] w fun e w' => e = .returned (.bool true) ∧ Below w.heap.size w w' := by
  have HM0 := hide ((Mem.start w).new (t := 28) (cs := mcells m A c vA vc) w.heap.size rfl)
  obtain ⟨w1, hw1⟩ : ∃ u, w.alloc (.cells (mcells m A c vA vc) 28) = u := ⟨_, rfl⟩
  obtain ⟨g, hgs⟩ : ∃ g, w.heap.size = g := ⟨_, rfl⟩
  rw [hw1, hgs] at HM0
  have HGS := hide hgs
  have HOK := hide hok
  have HRG : Hid (Rng m) := hide hok.rng
  obtain ⟨gr, hgr⟩ : ∃ r, greatB m = r := ⟨_, rfl⟩
  obtain ⟨E, hE⟩ : ∃ r, encE v m = r := ⟨_, rfl⟩
  obtain ⟨L, hL⟩ : ∃ r, encB v m = r := ⟨_, rfl⟩
  obtain ⟨n, hn⟩ : ∃ r, L.length = r := ⟨_, rfl⟩
  have HGR : Hid (∀ u, Calls Try.prog 12 #[.agg #[.int .i64 m.kind, .int .u64 m.id, .int .u64 m.n, .int .u64 m.ts, .string m.lo, .string m.hi, .slice A m.vers.length c, .slice vA m.vec.length vc, .int .i64 m.cmd.kind, .int .i64 m.cmd.dc, .int .i64 m.cmd.shard, .int .i64 m.cmd.node, .int .i64 m.cmd.mode, .string m.cmd.key]] u fun e w' => e = .returned (.bool gr) ∧ Below u.heap.size u w') := hide (fun u => by rw [← hgr]; exact great_any m A c vA vc u)
  have HEN : Hid (∀ u, Below g w u → Calls Try.prog 14 #[.int .i64 v, .agg #[.int .i64 m.kind, .int .u64 m.id, .int .u64 m.n, .int .u64 m.ts, .string m.lo, .string m.hi, .slice A m.vers.length c, .slice vA m.vec.length vc, .int .i64 m.cmd.kind, .int .i64 m.cmd.dc, .int .i64 m.cmd.shard, .int .i64 m.cmd.node, .int .i64 m.cmd.mode, .string m.cmd.key]] u (EncTo E L u)) := hide (fun u h => by rw [← hgs] at h; exact (encode_any v m A c vA vc w.heap.size u (hok.below h) h.size).mono fun e w' hh => hh.to hE hL)
  have HA := hide (fun u => awake_any u)
  have hnl : n ≤ 830000 := by rw [← hn, ← hL]; exact encB_len hok.rng
  have HN := hide hn
  have HEV := hide hE
  have HLV := hide hL
  clear hok hgr hE hL hn
  show Calls _ _ #[.int .i64 v, .agg #[.int .i64 m.kind, .int .u64 m.id, .int .u64 m.n, .int .u64 m.ts, .string m.lo, .string m.hi, .slice A m.vers.length c, .slice vA m.vec.length vc, .int .i64 m.cmd.kind, .int .i64 m.cmd.dc, .int .i64 m.cmd.shard, .int .i64 m.cmd.node, .int .i64 m.cmd.mode, .string m.cmd.key], .int .i64 at_, .int .u8 (mask.toNat : Int)] _ _
  obtain ⟨x0, x1, x2, x3, x4, x5, x6, x7, x8, x9, x10, x11, x12, x13⟩ := mAt (unhide HM0).blk0
  cases gr
  rotate_left
  · go_enter Try.func9, Try.ntmps9
    go_wp2_with (first
      | (go_at_call 12; (with_reducible refine Calls.mono (unhide HGR _) ?_); go_must ((
           rintro _ u1 ⟨rfl, hb⟩
           have HM1 := hide ((unhide HM0).called hb)
           obtain ⟨x0, x1, x2, x3, x4, x5, x6, x7, x8, x9, x10, x11, x12, x13⟩ := mAt (unhide HM1).blk0
           clear hb)))
      | (go_at_call 13; (with_reducible refine Calls.mono (unhide HA _) ?_); go_must ((
           rintro _ u2 ⟨rfl, hb⟩
           have HM2 := hide ((unhide HM1).called hb)
           clear hb))))
    go_ret
    exact ⟨rfl, by have h := (unhide HM2).below; first | exact h | (rw [unhide HGS] at h; exact h)⟩
  by_cases hc0 : E = 0
  rotate_left
  · have gc : (E != 0) = true := by simp [hc0]
    clear hc0
    go_enter Try.func9, Try.ntmps9
    go_wp2_with (first
      | (go_at_call 12; (with_reducible refine Calls.mono (unhide HGR _) ?_); go_must ((
           rintro _ u1 ⟨rfl, hb⟩
           have HM1 := hide ((unhide HM0).called hb)
           obtain ⟨x0, x1, x2, x3, x4, x5, x6, x7, x8, x9, x10, x11, x12, x13⟩ := mAt (unhide HM1).blk0
           clear hb)))
      | (go_at_call 14; (with_reducible refine Calls.mono (unhide HEN _ (by have h := (unhide HM1).below; first | exact h | (rw [unhide HGS] at h; exact h))) ?_); go_must ((
           rintro _ u4 ⟨A4, n4, c4, rfl, hn4, ho4, hb4, hc4⟩
           rw [unhide HN] at hn4
           subst hn4
           have HM4 := hide ((unhide HM1).called hb4)
           have HR4 : Hid (RdB u4 u4.heap.size A4 L) := hide ((RdV.of_own ho4).b)
           have HC4 := hide (show n ≤ c4 ∧ c4 ≤ 9223372036854775807 from ⟨hc4, (own_caps ho4).2⟩)
           clear ho4 hb4 hc4)))
      | (go_at_call 13; (with_reducible refine Calls.mono (unhide HA _) ?_); go_must ((
           rintro _ u2 ⟨rfl, hb⟩
           have HM2 := hide ((unhide HM4).called hb)
           clear hb))))
    go_ret
    exact ⟨rfl, by have h := (unhide HM2).below; first | exact h | (rw [unhide HGS] at h; exact h)⟩
  subst hc0
  by_cases hm0 : mask = 0
  · have gm : ((mask.toNat : Int) == 0) = true := by rw [hm0]; rfl
    clear hm0
    go_enter Try.func9, Try.ntmps9
    go_wp2_with (first
      | (go_at_call 12; (with_reducible refine Calls.mono (unhide HGR _) ?_); go_must ((
           rintro _ u1 ⟨rfl, hb⟩
           have HM1 := hide ((unhide HM0).called hb)
           obtain ⟨x0, x1, x2, x3, x4, x5, x6, x7, x8, x9, x10, x11, x12, x13⟩ := mAt (unhide HM1).blk0
           clear hb)))
      | (go_at_call 14; (with_reducible refine Calls.mono (unhide HEN _ (by have h := (unhide HM1).below; first | exact h | (rw [unhide HGS] at h; exact h))) ?_); go_must ((
           rintro _ u4 ⟨A4, n4, c4, rfl, hn4, ho4, hb4, hc4⟩
           rw [unhide HN] at hn4
           subst hn4
           have HM4 := hide ((unhide HM1).called hb4)
           have HR4 : Hid (RdB u4 u4.heap.size A4 L) := hide ((RdV.of_own ho4).b)
           have HC4 := hide (show n ≤ c4 ∧ c4 ≤ 9223372036854775807 from ⟨hc4, (own_caps ho4).2⟩)
           clear ho4 hb4 hc4)))
      | (go_at_call 13; (with_reducible refine Calls.mono (unhide HA _) ?_); go_must ((
           rintro _ u2 ⟨rfl, hb⟩
           have HM2 := hide ((unhide HM4).called hb)
           clear hb))))
    go_ret
    exact ⟨rfl, by have h := (unhide HM2).below; first | exact h | (rw [unhide HGS] at h; exact h)⟩
  have gm : ((mask.toNat : Int) == 0) = false := by
    have : mask.toNat ≠ 0 := fun h => hm0 (UInt8.toNat_inj.1 h)
    simp; omega
  by_cases ha0 : at_ < 0
  ·
    go_enter Try.func9, Try.ntmps9
    go_wp2_with (first
      | (go_at_call 12; (with_reducible refine Calls.mono (unhide HGR _) ?_); go_must ((
           rintro _ u1 ⟨rfl, hb⟩
           have HM1 := hide ((unhide HM0).called hb)
           obtain ⟨x0, x1, x2, x3, x4, x5, x6, x7, x8, x9, x10, x11, x12, x13⟩ := mAt (unhide HM1).blk0
           clear hb)))
      | (go_at_call 14; (with_reducible refine Calls.mono (unhide HEN _ (by have h := (unhide HM1).below; first | exact h | (rw [unhide HGS] at h; exact h))) ?_); go_must ((
           rintro _ u4 ⟨A4, n4, c4, rfl, hn4, ho4, hb4, hc4⟩
           rw [unhide HN] at hn4
           subst hn4
           have HM4 := hide ((unhide HM1).called hb4)
           have HR4 : Hid (RdB u4 u4.heap.size A4 L) := hide ((RdV.of_own ho4).b)
           have HC4 := hide (show n ≤ c4 ∧ c4 ≤ 9223372036854775807 from ⟨hc4, (own_caps ho4).2⟩)
           clear ho4 hb4 hc4)))
      | (go_at_call 13; (with_reducible refine Calls.mono (unhide HA _) ?_); go_must ((
           rintro _ u2 ⟨rfl, hb⟩
           have HM2 := hide ((unhide HM4).called hb)
           clear hb))))
    go_ret
    exact ⟨rfl, by have h := (unhide HM2).below; first | exact h | (rw [unhide HGS] at h; exact h)⟩
  obtain ⟨k, rfl⟩ := Int.eq_ofNat_of_zero_le (show 0 ≤ at_ by omega)
  clear ha0
  by_cases hkn : k < n
  rotate_left
  · have hkn2 : n ≤ k := by omega
    clear hkn
    go_enter Try.func9, Try.ntmps9
    go_wp2_with (first
      | (go_at_call 12; (with_reducible refine Calls.mono (unhide HGR _) ?_); go_must ((
           rintro _ u1 ⟨rfl, hb⟩
           have HM1 := hide ((unhide HM0).called hb)
           obtain ⟨x0, x1, x2, x3, x4, x5, x6, x7, x8, x9, x10, x11, x12, x13⟩ := mAt (unhide HM1).blk0
           clear hb)))
      | (go_at_call 14; (with_reducible refine Calls.mono (unhide HEN _ (by have h := (unhide HM1).below; first | exact h | (rw [unhide HGS] at h; exact h))) ?_); go_must ((
           rintro _ u4 ⟨A4, n4, c4, rfl, hn4, ho4, hb4, hc4⟩
           rw [unhide HN] at hn4
           subst hn4
           have HM4 := hide ((unhide HM1).called hb4)
           have HR4 : Hid (RdB u4 u4.heap.size A4 L) := hide ((RdV.of_own ho4).b)
           have HC4 := hide (show n ≤ c4 ∧ c4 ≤ 9223372036854775807 from ⟨hc4, (own_caps ho4).2⟩)
           clear ho4 hb4 hc4)))
      | (go_at_call 13; (with_reducible refine Calls.mono (unhide HA _) ?_); go_must ((
           rintro _ u2 ⟨rfl, hb⟩
           have HM2 := hide ((unhide HM4).called hb)
           clear hb))))
    go_ret
    exact ⟨rfl, by have h := (unhide HM2).below; first | exact h | (rw [unhide HGS] at h; exact h)⟩
  obtain ⟨i0, hi, hz0, hz1, hz2⟩ := info_parts u8info
  have hkL : k < L.length := by rw [unhide HN]; exact hkn
  obtain ⟨y0, hy0⟩ : ∃ y, L[k] = y := ⟨_, rfl⟩
  obtain ⟨C, hC⟩ : ∃ C, L.set k (y0 ^^^ mask) = C := ⟨_, rfl⟩
  have hCn : C.length = n := by rw [← hC, List.length_set]; exact unhide HN
  have hne : C ≠ L := fun e => by
    have h1 : C[k]? = L[k]? := by rw [e]
    rw [← hC, List.getElem?_set_self hkL, List.getElem?_eq_getElem hkL, hy0] at h1
    injection h1 with h1
    exact xor_ne hm0 h1
  obtain ⟨M, hM⟩ : ∃ x, decM v C = x := ⟨_, rfl⟩
  obtain ⟨F, hF⟩ : ∃ x, decE v C = x := ⟨_, rfl⟩
  have hMne : F ≠ 0 ∨ M ≠ m := by
    rcases dec_say hM hF with ⟨h, _⟩ | ⟨_, _, _, _, _, h⟩
    · exact .inl h
    · refine .inr fun e => hne ?_
      rw [h, e, ← unhide HLV, encB_ok (unhide HEV)]
  have HMNE := hide hMne
  have HD : Hid (∀ u A c, RdB u u.heap.size A C → n ≤ c → c ≤ 9223372036854775807 → Calls Try.prog 24 #[.int .i64 v, .slice A n c] u (DecTo M F u)) := hide (fun u A c h1 h2 h3 => decode_n hM hF A c u.heap.size n hCn u h1 (Nat.le_refl _) h2 ⟨h3, by omega⟩)
  have HRD : Hid (∀ u B A c, RdB u B A C → B ≤ u.heap.size → n ≤ c → c ≤ 9223372036854775807 → Calls Try.prog 25 #[.int .i64 v, .slice A n c] u (DecTo M F u)) := hide (fun u B A c h1 hB h2 h3 => rdecode_n hM hF A c B n hCn u h1 hB h2 ⟨h3, by omega⟩)
  have HY : Hid (L[k]? = some y0) := hide (by rw [List.getElem?_eq_getElem hkL, hy0])
  have HCV := hide hC
  have HKL := hide hkL
  clear hCn hne hM hF hMne hy0 hC hkL hm0
  go_enter Try.func9, Try.ntmps9
  go_upto_region 6 with (first
    | (go_at_call 12; (with_reducible refine Calls.mono (unhide HGR _) ?_); go_must ((
         rintro _ u1 ⟨rfl, hb⟩
         have HM1 := hide ((unhide HM0).called hb)
         obtain ⟨x0, x1, x2, x3, x4, x5, x6, x7, x8, x9, x10, x11, x12, x13⟩ := mAt (unhide HM1).blk0
         clear hb)))
    | (go_at_call 14; (with_reducible refine Calls.mono (unhide HEN _ (by have h := (unhide HM1).below; first | exact h | (rw [unhide HGS] at h; exact h))) ?_); go_must ((
         rintro _ u4 ⟨A4, n4, c4, rfl, hn4, ho4, hb4, hc4⟩
         rw [unhide HN] at hn4
         subst hn4
         have HM4 := hide ((unhide HM1).called hb4)
         have HR4 : Hid (RdB u4 u4.heap.size A4 L) := hide ((RdV.of_own ho4).b)
         have HC4 := hide (show n ≤ c4 ∧ c4 ≤ 9223372036854775807 from ⟨hc4, (own_caps ho4).2⟩)
         clear ho4 hb4 hc4))))
  clear x0 x1 x2 x3 x4 x5 x6 x7 x8 x9 x10 x11 x12 x13 HM0 HM1 hgs hw1
  have HOn : Hid ((u4.alloc (.cells #[] 5)).ownsRow u4.heap.size 5 1 (.slice (some ⟨u4.heap.size, 0, none⟩) 0 0) 0 []) := hide (own_new u4 u4.heap.size #[] 5 0 [] (Nat.le_refl _) (by simp [maxLen]) rfl rfl)
  have HMa := hide ((unhide HM4).other (.cells #[] 5))
  have HRa := hide ((unhide HR4).below ((Below.refl _ _).alloc (Nat.le_refl _) (.cells #[] 5)))
  have hza : u4.heap.size ≤ (u4.alloc (.cells #[] 5)).heap.size := by simp
  have hgl4 := (unhide HM4).blk0.lt
  have hwl4 := (unhide HM4).below.size
  go_upto_region 7 with (first
    | (at_builtin
       refine wpList_append_any _ rfl (.tmp 42) (.tmp 43) _ rfl u4.heap.size 5 i0 _ 1 1 Try.underlying31 hi hz0 hz1 hz2 rfl (by omega) _ 0 [] rfl (unhide HOn) _ A4 n c4 _ rfl (unhide HRa).v (by rw [List.length_map, unhide HN]; omega) oneCell_Bv (by simp only [maxLen]; omega) (by omega) hza ?_
       intro A9 c9 u9 hown9 hg9 hat9 hbel9 hcc9
       rw [Nat.zero_add, List.nil_append] at hown9
       rw [Nat.zero_add] at hcc9 ⊢
       have HO9 := hide hown9
       have HM9 := hide ((unhide HMa).low hbel9 (by intro p hp; simp only [List.mem_cons, List.not_mem_nil, or_false] at hp; subst hp; exact hgl4) hwl4)
       have hz9 := hbel9.size
       clear hown9 hg9 hat9 hbel9))
  obtain ⟨q, cp, hv9, hq1, hq2⟩ := (unhide HO9).form (by omega)
  simp only [Value.slice.injEq] at hv9
  obtain ⟨rfl, _, rfl⟩ := hv9
  have fk : u9.cell? ⟨q, k, none⟩ = some (.int .u8 (y0.toNat : Int)) := ((unhide HO9).cellAt k (by omega)).trans (by rw [List.getElem?_map, unhide HY]; rfl)
  have fz := (unhide HO9).frozenAt k
  have fql := hq2
  go_upto_region 8 with fail
  rw [xor_b8]
  have hown : (u9.setCell ⟨q, k, none⟩ (.int .u8 ((y0 ^^^ mask).toNat : Int))).ownsRow u4.heap.size 5 1 (.slice (some ⟨q, 0, none⟩) n c9) n (C.map Bv) := by
    have h := ((unhide HO9).stored k (Bv (y0 ^^^ mask))).1
    rw [← List.map_set, unhide HCV] at h
    exact h
  have hmem := (unhide HM9).far (g := q) (i := k) (v := .int .u8 ((y0 ^^^ mask).toNat : Int)) (by omega) (by intro p hp; simp only [List.mem_cons, List.not_mem_nil, or_false] at hp; subst hp; show g ≠ q; omega)
  obtain ⟨y1, hy1⟩ : ∃ u, u9.setCell ⟨q, k, none⟩ (.int .u8 ((y0 ^^^ mask).toNat : Int)) = u := ⟨_, rfl⟩
  rw [hy1] at hown hmem ⊢
  have HO10 := hide hown
  have HM10 := hide hmem
  have HC10 := hide (show n ≤ c9 ∧ c9 ≤ 9223372036854775807 from own_caps hown)
  clear hown hmem hy1 fk fz HO9 HM9
  go_upto_region 9 with (go_at_call 24; (with_reducible refine Calls.mono (unhide HD _ _ _ ((RdV.of_own (unhide HO10)).b) (unhide HC10).1 (unhide HC10).2) ?_); go_must ((
     rintro _ u11 ⟨A11, c11, vA11, vc11, rfl, hok, _, hb⟩
     have HM11 := hide ((unhide HM10).called hb)
     have HK11 := hide hok
     have HR11 := hide (((RdV.of_own (unhide HO10)).b).below hb)
     have hz11 := hb.size
     clear hb hok)))
  obtain ⟨g2, hg1⟩ : ∃ x, u11.heap.size = x := ⟨_, rfl⟩
  have HM12 := hide ((unhide HM11).new (t := 28) (cs := mcells M A11 c11 vA11 vc11) g2 hg1)
  obtain ⟨y2, hw1⟩ : ∃ u, u11.alloc (.cells (mcells M A11 c11 vA11 vc11) 28) = u := ⟨_, rfl⟩
  have hw1b : u11.alloc (.cells #[.int .i64 M.kind, .int .u64 M.id, .int .u64 M.n, .int .u64 M.ts, .string M.lo, .string M.hi, .slice A11 M.vers.length c11, .slice vA11 M.vec.length vc11, .int .i64 M.cmd.kind, .int .i64 M.cmd.dc, .int .i64 M.cmd.shard, .int .i64 M.cmd.node, .int .i64 M.cmd.mode, .string M.cmd.key] 28) = y2 := hw1
  have HBLa : Hid (Below u11.heap.size u11 y2) := hide (by rw [← hw1]; exact (Below.refl _ _).alloc (Nat.le_refl _) _)
  rw [hw1] at HM12
  rw [hg1, hw1b]
  have hgza : g2 ≤ y2.heap.size := by rw [← hg1]; exact (unhide HBLa).size
  clear hw1 hw1b
  have HK12 := hide ((unhide HK11).below (unhide HBLa))
  have HR12 := hide ((unhide HR11).below ((unhide HBLa).mono hz11))
  rw [hg1] at HK12
  have hza2 := Nat.le_trans hz11 (unhide HBLa).size
  clear hg1 HM11 HK11 HR11
  go_upto_region 10 with (go_at_call 25; (with_reducible refine Calls.mono (unhide HRD _ _ _ _ (unhide HR12) hza2 (unhide HC10).1 (unhide HC10).2) ?_); go_must ((
     rintro _ u13 ⟨A13, c13, vA13, vc13, rfl, hok, _, hb⟩
     have HM13 := hide ((unhide HM12).called hb)
     have HJ13 := hide hok
     have HK13 := hide ((unhide HK12).below (hb.mono hgza))
     have hz13 := hb.size
     clear hb hok)))
  obtain ⟨g3, hg1⟩ : ∃ x, u13.heap.size = x := ⟨_, rfl⟩
  have HM14 := hide ((unhide HM13).new (t := 28) (cs := mcells M A13 c13 vA13 vc13) g3 hg1)
  obtain ⟨y3, hw1⟩ : ∃ u, u13.alloc (.cells (mcells M A13 c13 vA13 vc13) 28) = u := ⟨_, rfl⟩
  have hw1b : u13.alloc (.cells #[.int .i64 M.kind, .int .u64 M.id, .int .u64 M.n, .int .u64 M.ts, .string M.lo, .string M.hi, .slice A13 M.vers.length c13, .slice vA13 M.vec.length vc13, .int .i64 M.cmd.kind, .int .i64 M.cmd.dc, .int .i64 M.cmd.shard, .int .i64 M.cmd.node, .int .i64 M.cmd.mode, .string M.cmd.key] 28) = y3 := hw1
  have HBLb : Hid (Below u13.heap.size u13 y3) := hide (by rw [← hw1]; exact (Below.refl _ _).alloc (Nat.le_refl _) _)
  rw [hw1] at HM14
  rw [hg1, hw1b]
  have hgzb : g3 ≤ y3.heap.size := by rw [← hg1]; exact (unhide HBLb).size
  clear hw1 hw1b
  have HJ14 := hide ((unhide HJ13).below (unhide HBLb))
  have HK14 := hide ((unhide HK13).below ((unhide HBLb).mono (by omega)))
  rw [hg1] at HJ14
  have hg2y : g2 ≤ y3.heap.size := by have := (unhide HBLb).size; omega
  clear hg1 HM13 HK13 HJ13 HBLa HBLb
  have hFF : (F == F) = true := beq_self_eq_true F
  by_cases hF0 : F = 0
  · subst hF0
    have hMm : M ≠ m := by
      rcases unhide HMNE with h | h
      · exact absurd rfl h
      · exact h
    have HSX : Hid (∀ u, Mq.Ok ⟨M, A11, c11, vA11, vc11⟩ u g2 → g2 ≤ u.heap.size → Mq.Ok ⟨m, A, c, vA, vc⟩ u w.heap.size → w.heap.size ≤ u.heap.size → Calls Try.prog 19 #[.agg #[.int .i64 M.kind, .int .u64 M.id, .int .u64 M.n, .int .u64 M.ts, .string M.lo, .string M.hi, .slice A11 M.vers.length c11, .slice vA11 M.vec.length vc11, .int .i64 M.cmd.kind, .int .i64 M.cmd.dc, .int .i64 M.cmd.shard, .int .i64 M.cmd.node, .int .i64 M.cmd.mode, .string M.cmd.key], .agg #[.int .i64 m.kind, .int .u64 m.id, .int .u64 m.n, .int .u64 m.ts, .string m.lo, .string m.hi, .slice A m.vers.length c, .slice vA m.vec.length vc, .int .i64 m.cmd.kind, .int .i64 m.cmd.dc, .int .i64 m.cmd.shard, .int .i64 m.cmd.node, .int .i64 m.cmd.mode, .string m.cmd.key]] u fun e w' => e = .returned (.bool false) ∧ Below u.heap.size u w') := hide (fun u h1 h2 h3 h4 => same_msg M m false (by simp [hMm]) A11 c11 vA11 vc11 A c vA vc g2 w.heap.size u h1 h3 h2 h4)
    clear hMm
    go_wp2_with (first
      | (go_at_call 13; (with_reducible refine Calls.mono (unhide HA _) ?_); go_must ((
         rintro _ u15 ⟨rfl, hb⟩
         have HM15 := hide ((unhide HM14).called hb)
         have HK15 := hide ((unhide HK14).below (hb.mono hg2y))
         have HJ15 := hide ((unhide HJ14).below (hb.mono hgzb))
         have hz15 := hb.size
         obtain ⟨x0, x1, x2, x3, x4, x5, x6, x7, x8, x9, x10, x11, x12, x13⟩ := mAt (unhide HM15).blk2
         obtain ⟨y0, y1, y2, y3, y4, y5, y6, y7, y8, y9, y10, y11, y12, y13⟩ := mAt (unhide HM15).blk1
         obtain ⟨z0, z1, z2, z3, z4, z5, z6, z7, z8, z9, z10, z11, z12, z13⟩ := mAt (unhide HM15).blk0
         clear hb)))
      | (go_at_call 19; (with_reducible refine Calls.mono (unhide HSX _ (unhide HK16) (by omega) ((unhide HOK).below (by have h := (unhide HM16).below; first | exact h | (rw [unhide HGS] at h; exact h))) (by have h := (unhide HM16).below.size; omega)) ?_); go_must ((
         rintro _ u17 ⟨rfl, hb⟩
         have HM17 := hide ((unhide HM16).called hb)
         clear hb)))
      | (go_at_call 19; go_must ((
         refine Calls.mono (same_msg M M true (by simp) A11 c11 vA11 vc11 A13 c13 vA13 vc13 _ _ _ (unhide HK15) (unhide HJ15) (by omega) (by omega)) ?_
         rintro _ u16 ⟨rfl, hb⟩
         have HM16 := hide ((unhide HM15).called hb)
         have HK16 := hide ((unhide HK15).below (hb.mono (by omega)))
         have hz16 := hb.size
         obtain ⟨x0, x1, x2, x3, x4, x5, x6, x7, x8, x9, x10, x11, x12, x13⟩ := mAt (unhide HM16).blk2
         obtain ⟨y0, y1, y2, y3, y4, y5, y6, y7, y8, y9, y10, y11, y12, y13⟩ := mAt (unhide HM16).blk1
         clear hb))))
    go_ret
    exact ⟨rfl, by have h := (unhide HM17).below; first | exact h | (rw [unhide HGS] at h; exact h)⟩
  · have gF : (F != 0) = true := by simp [hF0]
    clear hF0
    go_wp2_with (first
      | (go_at_call 13; (with_reducible refine Calls.mono (unhide HA _) ?_); go_must ((
         rintro _ u15 ⟨rfl, hb⟩
         have HM15 := hide ((unhide HM14).called hb)
         have HK15 := hide ((unhide HK14).below (hb.mono hg2y))
         have HJ15 := hide ((unhide HJ14).below (hb.mono hgzb))
         have hz15 := hb.size
         obtain ⟨y0, y1, y2, y3, y4, y5, y6, y7, y8, y9, y10, y11, y12, y13⟩ := mAt (unhide HM15).blk1
         obtain ⟨z0, z1, z2, z3, z4, z5, z6, z7, z8, z9, z10, z11, z12, z13⟩ := mAt (unhide HM15).blk0
         clear hb)))
      | (go_at_call 19; go_must ((
         refine Calls.mono (same_msg M M true (by simp) A11 c11 vA11 vc11 A13 c13 vA13 vc13 _ _ _ (unhide HK15) (unhide HJ15) (by omega) (by omega)) ?_
         rintro _ u16 ⟨rfl, hb⟩
         have HM16 := hide ((unhide HM15).called hb)
         clear hb))))
    go_ret
    exact ⟨rfl, by have h := (unhide HM16).below; first | exact h | (rw [unhide HGS] at h; exact h)⟩
end Go.Proofs.Ytkgacehnpdijaaa
