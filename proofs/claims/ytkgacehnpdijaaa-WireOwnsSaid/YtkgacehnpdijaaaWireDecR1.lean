/- The document's Decode, version 1. -/
import Derived.Test.YtkgacehnpdijaaaWireDec2
namespace Go.Proofs.Ytkgacehnpdijaaa
set_option linter.unusedVariables false
set_option linter.unusedSimpArgs false
open Go.RowKit Wire


set_option maxHeartbeats 8000000 in
set_option maxRecDepth 20000 in
theorem rdecode_1 (b : List UInt8) (A : Option Addr) (c B : Nat) (w : World) (hr : RdB w B A b) (hB : B ≤ w.heap.size) (hc : b.length ≤ c) (hm : c ≤ 9223372036854775807 ∧ b.length ≤ 140737488351232) : Calls Try.prog 25 #[.int .i64 1, .slice A b.length c] w (DecRes 1 b w) := by
  have HRB := hide hr
  clear hr
  · go_enter Try.func25, Try.ntmps25
    go_upto_region 4 with fail
    obtain ⟨w2, hw2⟩ : ∃ u, (w.alloc (.cells zeroMsg 28)).alloc (.cells #[.slice A b.length c, .int .i64 0] 69) = u := ⟨_, rfl⟩
    have hs1 : (w.alloc (.cells zeroMsg 28)).heap.size = w.heap.size + 1 := szA _ _
    obtain ⟨p0, hp0⟩ : ∃ x, w.heap.size = x := ⟨_, rfl⟩
    obtain ⟨R, hR⟩ : ∃ x, p0 + 1 = x := ⟨_, rfl⟩
    rw [hp0, hR] at hs1
    have hm2 : Blk w2 p0 28 zeroMsg := by rw [← hw2, ← hp0]; exact (Blk.new w _ _).alloc _
    have hq2 : Blk w2 R 69 #[.slice A b.length c, .int .i64 0] := by rw [← hw2, ← hs1]; exact Blk.new _ _ _
    have hb2 : Below p0 w w2 := by rw [← hw2, ← hp0]; exact ((Below.refl _ _).alloc (Nat.le_refl _) _).alloc (by rw [hs1]; omega) _
    have hr2 : QAt w2 R B (.ok b) := ⟨A, c, b, 0, hq2, hc, hm, (unhide HRB).below (hb2.mono (by omega)), by omega, .inl ⟨rfl, rfl⟩⟩
    rw [hp0, hR, hw2]
    have HP2 := hide hm2
    have HB2 := hide (show Below w.heap.size w w2 by rw [hp0]; exact hb2)
    have HQ2 := hide hr2
    have hwp : w.heap.size ≤ p0 := by omega
    have hRw : w.heap.size ≤ R := by omega
    have hpR : p0 ≠ R := by omega
    have hBp : B ≤ p0 := by omega
    have HWD : Hid (∀ u s, QAt u R B s → Calls Try.prog 42 #[.pointer (some ⟨R, 0, none⟩), .int .i64 1] u (QOut (fixC 1).rd 0 (Value.int .u64) R B s u)) := hide (fun u s h => q_wide R B 1 s u h (by omega) (by omega))
    have hpR2 : p0 < R := by omega
    clear hw2 hs1 hm2 hq2 hb2 hr2 hp0 hR
    go_upto_region 5 with (go_at_call 42; (with_reducible refine Calls.mono (unhide HWD _ _ (unhide HQ2)) ?_); go_must ((
       rintro _ x1 ⟨rfl, hq, ho⟩
       generalize h1 : rdS (fixC 1).rd (.ok b) = s1 at hq
       generalize h2 : rdV 0 (fixC 1).rd (.ok b) = k
       have hk0 := rdV_range (fix_law 1) (P := fun n => 0 ≤ n ∧ n < 256) ⟨by omega, by omega⟩ (fun n h => ⟨h.1, h.2⟩) (.ok b)
       rw [h2] at hk0
       have hkw : IntKind.i64.wrap k = k := by simp [IntKind.wrap, IntKind.signed, IntKind.bits]; omega
       have HS1 := hide h1
       have HK := hide h2
       have HQ1 := hide hq
       have HP1 := hide ((unhide HP2).only ho (fun e => hpR e))
       have HB1 := hide (below_only (unhide HB2) (Nat.le_refl _) ho (fun k hk => by rw [hk]; exact hRw))
       clear h1 h2 hq ho)))
    obtain ⟨mm, hmm⟩ : ∃ x, x1.heap.size = x := ⟨_, rfl⟩
    obtain ⟨y1, hy1⟩ : ∃ u, x1.alloc (.cells (mcells (mkMs k zParts) none 0 none 0) 28) = u := ⟨_, rfl⟩
    have hy1b : x1.alloc (.cells #[.int .i64 k, .int .u64 0, .int .u64 0, .int .u64 0, .string ⟨#[]⟩, .string ⟨#[]⟩, .slice none 0 0, .slice none 0 0, .int .i64 0, .int .i64 0, .int .i64 0, .int .i64 0, .int .i64 0, .string ⟨#[]⟩] 28) = y1 := hy1
    have hRm : R < mm := by rw [← hmm]; exact (unhide HQ1).lt
    have hM1 : Hid (Blk y1 mm 28 (mcells (mkMs k zParts) none 0 none 0)) := hide (by rw [← hy1, ← hmm]; exact Blk.new _ _ _)
    have HM1 := hM1
    replace HQ1 : Hid (QAt y1 R B s1) := hide (by rw [← hy1]; exact (unhide HQ1).only (S := fun _ => False) ((Only.refl _ _).alloc _) (fun _ h => h.elim))
    replace HP1 : Hid (Blk y1 p0 28 zeroMsg) := hide (by rw [← hy1]; exact (unhide HP1).alloc _)
    replace HB1 : Hid (Below w.heap.size w y1) := hide (by rw [← hy1]; exact (unhide HB1).alloc (unhide HB1).size _)
    obtain ⟨base, hbase⟩ : ∃ x, y1.heap.size = x := ⟨_, rfl⟩
    have hmb : mm < base := by rw [← hbase]; exact (unhide HM1).lt
    rw [hmm, hy1b]
    clear hmm hy1 hy1b hM1 hkw HQ2 HP2 HB2
    have fk : y1.cell? ⟨mm, 0, none⟩ = some (.int .i64 k) := (unhide HM1).cell 0
    rcases hs : s1 with er | r1
    · rw [hs] at HQ1
      have HD := hide (dec_bad v_one (b := b) (msg_kind_err v_one (kind_err (rd_of_err ((unhide HS1).trans hs)))))
      have HQE := HQ1
      have HPE := HP1
      have HBE := HB1
      obtain ⟨fe1, ge1, ge2, hle⟩ := q_err (unhide HQE)
      clear HM1 HQ1 HP1 HB1 HS1 HK hs hbase fk
      go_wp2_with fail
      go_loopw [8, 9] (fun bits i wr => (∃ n : Int, bits = .int .u64 n) ∧ i = .int .i64 0 ∧ QAt wr R B (.error er) ∧ Blk wr p0 28 zeroMsg ∧ Below w.heap.size w wr) (fun _ _ _ => 0)
      case atStart => exact ⟨⟨_, rfl⟩, rfl, unhide HQE, unhide HPE, unhide HBE⟩
      case round =>
        obtain ⟨⟨n0, rfl⟩, rfl, hq, hp, hbe⟩ := hrel
        obtain ⟨wE, rfl⟩ : ∃ u, u = wr := ⟨_, rfl⟩
        clear HQE HPE HBE
        have HQE := hide hq
        have HP0 := hide hp
        have HBE := hide hbe
        clear hq hp hbe
        obtain ⟨fe1, ge1, ge2, hle⟩ := q_err (unhide HQE)
        go_upto_region 21 with fail
        have gS : wE.drew.cell? ⟨R, 1, none⟩ = some (.int .i64 er) := fe1
        refine wp_region_L 4 (fun u => u.cell? ⟨R, 1, none⟩ = some (.int .i64 er)) (by kernel_rfl) ?_
        refine wpAnyL_take (i := 1) (v := ?_) [2,4] rfl (by kernel_rfl) (by kernel_rfl) (by kernel_rfl) (by kernel_rfl) (fun _ _ _ h => h) (Or.inl ⟨by kernel_rfl, ?_⟩) (by exact gS) ?_
        rotate_left
        · intro u hSu
          go_simp
          try with_reducible rfl
        try simp only [Act.put, List.setIfInBounds_toArray, List.set_cons_zero, List.set_cons_succ]
        refine wpAnyL_take (i := 2) (v := ?_) [4] rfl (by kernel_rfl) (by kernel_rfl) (by kernel_rfl) (by kernel_rfl) (fun _ _ _ h => h) (Or.inl ⟨by kernel_rfl, ?_⟩) (by exact gS) ?_
        rotate_left
        · intro u hSu
          go_simp
          try with_reducible rfl
        try simp only [Act.put, List.setIfInBounds_toArray, List.set_cons_zero, List.set_cons_succ]
        refine wpAnyL_take (i := 0) (v := ?_) [3,4] rfl (by kernel_rfl) (by kernel_rfl) (by kernel_rfl) (by kernel_rfl) (fun _ _ _ h => h) (Or.inl ⟨by kernel_rfl, ?_⟩) (by exact gS) ?_
        rotate_left
        · intro u hSu
          go_simp
          try with_reducible rfl
        try simp only [Act.put, List.setIfInBounds_toArray, List.set_cons_zero, List.set_cons_succ]
        refine wpAnyL_one (i := 3) (by kernel_rfl) rfl (fun K hK => ?_)
        refine if_wanted rfl (wp_store_mid 28 (.tmp 4) (.tmp 82) rfl p0 0 zeroMsg rfl rfl ((unhide HP0).drew.there (by show 0 + 14 ≤ 14; omega)) (by kernel_rfl) (by simp [Value.oneCell']) ?_)
        have hoS := Only.setCells (S := fun k => k = p0) (g := p0) rfl z14 0 wE.drew
        have hmS : Blk (wE.drew.setCells p0 0 z14) p0 28 zeroMsg := (unhide HP0).drew.setCells _ 0
        have gS2 : (wE.drew.setCells p0 0 z14).cell? ⟨R, 1, none⟩ = some (.int .i64 er) := (hoS.cell (a := ⟨R, 1, none⟩) hle (fun e => hpR e.symm)).trans gS
        have hbS := below_only (unhide HBE).drew (Nat.le_refl _) hoS (fun k hk => by rw [hk]; exact hwp)
        obtain ⟨wF, hwF⟩ : ∃ u, wE.drew.setCells p0 0 z14 = u := ⟨_, rfl⟩
        have hwF2 : wE.drew.setCells p0 0 (zeroMsg.toList) = wF := hwF
        rw [hwF] at hmS hbS gS2
        rw [hwF2]
        refine hK.out _ _ (fun _ => gS2) ?_
        clear hK K
        try simp only [Act.put, List.setIfInBounds_toArray, List.set_cons_zero, List.set_cons_succ]
        refine wpAnyL_one (i := 4) (by kernel_rfl) rfl (fun K hK => ?_)
        simp only [List.getElem_toArray, List.getElem_cons_succ, List.getElem_cons_zero]
        go_simp
        refine hK.out _ _ (fun h => absurd rfl h) ?_
        clear hK K
        try simp only [Act.put, List.setIfInBounds_toArray, List.set_cons_zero, List.set_cons_succ]
        refine wpAnyL_done (by kernel_rfl) ?_ _
        have HMS := hide hmS
        have HBS := hide hbS
        clear hmS hbS gS gS2 hwF hwF2 hoS fe1
        go_wp2_with fail
        exact bodyPost_ret (results_cellt rfl _ _ p0 zeroMsg _ rfl rfl (unhide HMS) rfl) rfl ⟨none, 0, none, 0, by rw [(unhide HD).1, (unhide HD).2]; rfl, by rw [(unhide HD).1]; exact mown0 _ _, unhide HBS⟩
    rw [hs] at HQ1
    have hkr := rd_of_ok ((unhide HS1).trans hs) 0
    rw [unhide HK] at hkr
    have HKR := hide hkr
    obtain ⟨A3, c3, fq0, fq1, hRl⟩ := q_good (unhide HQ1)
    have HST := hide (stop_any R B r1 5 y1 (unhide HQ1) (by omega))
    clear hkr hs HS1 HK
    by_cases hk1 : k < 1
    · have HD := hide (dec_bad v_one (b := b) (msg_kind_err v_one (kind_bad (unhide HKR) (.inl hk1))))
      go_upto_region 7 with (go_at_call 43; (with_reducible refine Calls.mono (unhide HST) ?_); go_must ((
         rintro _ x5 ⟨rfl, hq5, ho5⟩
         have HQE := hide hq5
         have HPE := hide ((unhide HP1).only ho5 (fun e => hpR e))
         have HBE := hide (below_only (unhide HB1) (Nat.le_refl _) ho5 (fun k hk => by rw [hk]; exact hRw))
         clear hq5 ho5)))
      obtain ⟨er, her⟩ : ∃ er : Int, 5 = er := ⟨_, rfl⟩
      rw [her] at HD HQE
      obtain ⟨fe1, ge1, ge2, hle⟩ := q_err (unhide HQE)
      clear HM1 HQ1 HP1 HB1 HST hbase fk fq0 fq1 her
      go_wp2_with fail
      go_loopw [8, 9] (fun bits i wr => (∃ n : Int, bits = .int .u64 n) ∧ i = .int .i64 0 ∧ QAt wr R B (.error er) ∧ Blk wr p0 28 zeroMsg ∧ Below w.heap.size w wr) (fun _ _ _ => 0)
      case atStart => exact ⟨⟨_, rfl⟩, rfl, unhide HQE, unhide HPE, unhide HBE⟩
      case round =>
        obtain ⟨⟨n0, rfl⟩, rfl, hq, hp, hbe⟩ := hrel
        obtain ⟨wE, rfl⟩ : ∃ u, u = wr := ⟨_, rfl⟩
        clear HQE HPE HBE
        have HQE := hide hq
        have HP0 := hide hp
        have HBE := hide hbe
        clear hq hp hbe
        obtain ⟨fe1, ge1, ge2, hle⟩ := q_err (unhide HQE)
        go_upto_region 21 with fail
        have gS : wE.drew.cell? ⟨R, 1, none⟩ = some (.int .i64 er) := fe1
        refine wp_region_L 4 (fun u => u.cell? ⟨R, 1, none⟩ = some (.int .i64 er)) (by kernel_rfl) ?_
        refine wpAnyL_take (i := 1) (v := ?_) [2,4] rfl (by kernel_rfl) (by kernel_rfl) (by kernel_rfl) (by kernel_rfl) (fun _ _ _ h => h) (Or.inl ⟨by kernel_rfl, ?_⟩) (by exact gS) ?_
        rotate_left
        · intro u hSu
          go_simp
          try with_reducible rfl
        try simp only [Act.put, List.setIfInBounds_toArray, List.set_cons_zero, List.set_cons_succ]
        refine wpAnyL_take (i := 2) (v := ?_) [4] rfl (by kernel_rfl) (by kernel_rfl) (by kernel_rfl) (by kernel_rfl) (fun _ _ _ h => h) (Or.inl ⟨by kernel_rfl, ?_⟩) (by exact gS) ?_
        rotate_left
        · intro u hSu
          go_simp
          try with_reducible rfl
        try simp only [Act.put, List.setIfInBounds_toArray, List.set_cons_zero, List.set_cons_succ]
        refine wpAnyL_take (i := 0) (v := ?_) [3,4] rfl (by kernel_rfl) (by kernel_rfl) (by kernel_rfl) (by kernel_rfl) (fun _ _ _ h => h) (Or.inl ⟨by kernel_rfl, ?_⟩) (by exact gS) ?_
        rotate_left
        · intro u hSu
          go_simp
          try with_reducible rfl
        try simp only [Act.put, List.setIfInBounds_toArray, List.set_cons_zero, List.set_cons_succ]
        refine wpAnyL_one (i := 3) (by kernel_rfl) rfl (fun K hK => ?_)
        refine if_wanted rfl (wp_store_mid 28 (.tmp 4) (.tmp 82) rfl p0 0 zeroMsg rfl rfl ((unhide HP0).drew.there (by show 0 + 14 ≤ 14; omega)) (by kernel_rfl) (by simp [Value.oneCell']) ?_)
        have hoS := Only.setCells (S := fun k => k = p0) (g := p0) rfl z14 0 wE.drew
        have hmS : Blk (wE.drew.setCells p0 0 z14) p0 28 zeroMsg := (unhide HP0).drew.setCells _ 0
        have gS2 : (wE.drew.setCells p0 0 z14).cell? ⟨R, 1, none⟩ = some (.int .i64 er) := (hoS.cell (a := ⟨R, 1, none⟩) hle (fun e => hpR e.symm)).trans gS
        have hbS := below_only (unhide HBE).drew (Nat.le_refl _) hoS (fun k hk => by rw [hk]; exact hwp)
        obtain ⟨wF, hwF⟩ : ∃ u, wE.drew.setCells p0 0 z14 = u := ⟨_, rfl⟩
        have hwF2 : wE.drew.setCells p0 0 (zeroMsg.toList) = wF := hwF
        rw [hwF] at hmS hbS gS2
        rw [hwF2]
        refine hK.out _ _ (fun _ => gS2) ?_
        clear hK K
        try simp only [Act.put, List.setIfInBounds_toArray, List.set_cons_zero, List.set_cons_succ]
        refine wpAnyL_one (i := 4) (by kernel_rfl) rfl (fun K hK => ?_)
        simp only [List.getElem_toArray, List.getElem_cons_succ, List.getElem_cons_zero]
        go_simp
        refine hK.out _ _ (fun h => absurd rfl h) ?_
        clear hK K
        try simp only [Act.put, List.setIfInBounds_toArray, List.set_cons_zero, List.set_cons_succ]
        refine wpAnyL_done (by kernel_rfl) ?_ _
        have HMS := hide hmS
        have HBS := hide hbS
        clear hmS hbS gS gS2 hwF hwF2 hoS fe1
        go_wp2_with fail
        exact bodyPost_ret (results_cellt rfl _ _ p0 zeroMsg _ rfl rfl (unhide HMS) rfl) rfl ⟨none, 0, none, 0, by rw [(unhide HD).1, (unhide HD).2]; rfl, by rw [(unhide HD).1]; exact mown0 _ _, unhide HBS⟩
    by_cases hk2 : 26 < k
    · have HD := hide (dec_bad v_one (b := b) (msg_kind_err v_one (kind_bad (unhide HKR) (.inr hk2))))
      go_upto_region 7 with (go_at_call 43; (with_reducible refine Calls.mono (unhide HST) ?_); go_must ((
         rintro _ x5 ⟨rfl, hq5, ho5⟩
         have HQE := hide hq5
         have HPE := hide ((unhide HP1).only ho5 (fun e => hpR e))
         have HBE := hide (below_only (unhide HB1) (Nat.le_refl _) ho5 (fun k hk => by rw [hk]; exact hRw))
         clear hq5 ho5)))
      obtain ⟨er, her⟩ : ∃ er : Int, 5 = er := ⟨_, rfl⟩
      rw [her] at HD HQE
      obtain ⟨fe1, ge1, ge2, hle⟩ := q_err (unhide HQE)
      clear HM1 HQ1 HP1 HB1 HST hbase fk fq0 fq1 her
      go_wp2_with fail
      go_loopw [8, 9] (fun bits i wr => (∃ n : Int, bits = .int .u64 n) ∧ i = .int .i64 0 ∧ QAt wr R B (.error er) ∧ Blk wr p0 28 zeroMsg ∧ Below w.heap.size w wr) (fun _ _ _ => 0)
      case atStart => exact ⟨⟨_, rfl⟩, rfl, unhide HQE, unhide HPE, unhide HBE⟩
      case round =>
        obtain ⟨⟨n0, rfl⟩, rfl, hq, hp, hbe⟩ := hrel
        obtain ⟨wE, rfl⟩ : ∃ u, u = wr := ⟨_, rfl⟩
        clear HQE HPE HBE
        have HQE := hide hq
        have HP0 := hide hp
        have HBE := hide hbe
        clear hq hp hbe
        obtain ⟨fe1, ge1, ge2, hle⟩ := q_err (unhide HQE)
        go_upto_region 21 with fail
        have gS : wE.drew.cell? ⟨R, 1, none⟩ = some (.int .i64 er) := fe1
        refine wp_region_L 4 (fun u => u.cell? ⟨R, 1, none⟩ = some (.int .i64 er)) (by kernel_rfl) ?_
        refine wpAnyL_take (i := 1) (v := ?_) [2,4] rfl (by kernel_rfl) (by kernel_rfl) (by kernel_rfl) (by kernel_rfl) (fun _ _ _ h => h) (Or.inl ⟨by kernel_rfl, ?_⟩) (by exact gS) ?_
        rotate_left
        · intro u hSu
          go_simp
          try with_reducible rfl
        try simp only [Act.put, List.setIfInBounds_toArray, List.set_cons_zero, List.set_cons_succ]
        refine wpAnyL_take (i := 2) (v := ?_) [4] rfl (by kernel_rfl) (by kernel_rfl) (by kernel_rfl) (by kernel_rfl) (fun _ _ _ h => h) (Or.inl ⟨by kernel_rfl, ?_⟩) (by exact gS) ?_
        rotate_left
        · intro u hSu
          go_simp
          try with_reducible rfl
        try simp only [Act.put, List.setIfInBounds_toArray, List.set_cons_zero, List.set_cons_succ]
        refine wpAnyL_take (i := 0) (v := ?_) [3,4] rfl (by kernel_rfl) (by kernel_rfl) (by kernel_rfl) (by kernel_rfl) (fun _ _ _ h => h) (Or.inl ⟨by kernel_rfl, ?_⟩) (by exact gS) ?_
        rotate_left
        · intro u hSu
          go_simp
          try with_reducible rfl
        try simp only [Act.put, List.setIfInBounds_toArray, List.set_cons_zero, List.set_cons_succ]
        refine wpAnyL_one (i := 3) (by kernel_rfl) rfl (fun K hK => ?_)
        refine if_wanted rfl (wp_store_mid 28 (.tmp 4) (.tmp 82) rfl p0 0 zeroMsg rfl rfl ((unhide HP0).drew.there (by show 0 + 14 ≤ 14; omega)) (by kernel_rfl) (by simp [Value.oneCell']) ?_)
        have hoS := Only.setCells (S := fun k => k = p0) (g := p0) rfl z14 0 wE.drew
        have hmS : Blk (wE.drew.setCells p0 0 z14) p0 28 zeroMsg := (unhide HP0).drew.setCells _ 0
        have gS2 : (wE.drew.setCells p0 0 z14).cell? ⟨R, 1, none⟩ = some (.int .i64 er) := (hoS.cell (a := ⟨R, 1, none⟩) hle (fun e => hpR e.symm)).trans gS
        have hbS := below_only (unhide HBE).drew (Nat.le_refl _) hoS (fun k hk => by rw [hk]; exact hwp)
        obtain ⟨wF, hwF⟩ : ∃ u, wE.drew.setCells p0 0 z14 = u := ⟨_, rfl⟩
        have hwF2 : wE.drew.setCells p0 0 (zeroMsg.toList) = wF := hwF
        rw [hwF] at hmS hbS gS2
        rw [hwF2]
        refine hK.out _ _ (fun _ => gS2) ?_
        clear hK K
        try simp only [Act.put, List.setIfInBounds_toArray, List.set_cons_zero, List.set_cons_succ]
        refine wpAnyL_one (i := 4) (by kernel_rfl) rfl (fun K hK => ?_)
        simp only [List.getElem_toArray, List.getElem_cons_succ, List.getElem_cons_zero]
        go_simp
        refine hK.out _ _ (fun h => absurd rfl h) ?_
        clear hK K
        try simp only [Act.put, List.setIfInBounds_toArray, List.set_cons_zero, List.set_cons_succ]
        refine wpAnyL_done (by kernel_rfl) ?_ _
        have HMS := hide hmS
        have HBS := hide hbS
        clear hmS hbS gS gS2 hwF hwF2 hoS fe1
        go_wp2_with fail
        exact bodyPost_ret (results_cellt rfl _ _ p0 zeroMsg _ rfl rfl (unhide HMS) rfl) rfl ⟨none, 0, none, 0, by rw [(unhide HD).1, (unhide HD).2]; rfl, by rw [(unhide HD).1]; exact mown0 _ _, unhide HBS⟩
    have HKD := hide (kind_go (unhide HKR) hk1 hk2)
    clear HST HKR
    go_upto_region 7 with fail
    clear fk fq0 fq1 hRl
    obtain ⟨M, hM⟩ : ∃ M : Int, (255 : Int) = M := ⟨_, rfl⟩
    have hM0 : 0 ≤ M := by omega
    have hM1 : M < 256 := by omega
    have HALL := hide (show decOf 1 b = endOf (loopR 1 M 8 0 (mkMs k zParts) r1) by rw [← hM]; exact all1 (unhide HKD))
    go_wp2_with fail
    clear hM
    have HQ3 := HQ1
    have HM3 := HM1
    have HP3 := HP1
    have HB3 := HB1
    have hbs : base ≤ y1.heap.size := by omega
    clear hbase HQ1 HM1 HP1 HB1
    have hb0 : MOwn y1 base (mkMs k zParts) none 0 none 0 := ⟨own_nil _ _ _ _, own_nil _ _ _ _⟩
    have hRb : R < base := by omega
    have hwb : w.heap.size ≤ base := by omega
    have hBmm : B ≤ mm := by omega
    have hmR : mm ≠ R := by omega
    have hpm : p0 ≠ mm := by omega
    have hwm : w.heap.size ≤ mm := by omega
    have HST3 : Hid (∀ u q, QAt u R B (.ok q) → Calls Try.prog 43 #[.pointer (some ⟨R, 0, none⟩), .int .i64 3] u fun e w' => e = .returned (.tuple #[]) ∧ QAt w' R B (.error 3) ∧ Only (fun k => k = R) u w') := hide (fun u q h => stop_any R B q 3 u h (by omega))
    go_loopw [8, 9] (fun bits i wr => ∃ (j : Nat) (Y : Int), j ≤ 8 ∧ i = .int .i64 j ∧ bits = .int .u64 Y ∧ Y = M / 2 ^ j ∧ Blk wr p0 28 zeroMsg ∧ Below w.heap.size w wr ∧ base ≤ wr.heap.size ∧
      ((∃ m q A c vA vc, QAt wr R B (.ok q) ∧ Blk wr mm 28 (mcells m A c vA vc) ∧ MOwn wr base m A c vA vc ∧ (j ≤ 5 → m.vers = [] ∧ A = none ∧ c = 0) ∧ (j ≤ 6 → m.vec = [] ∧ vA = none ∧ vc = 0) ∧ decOf 1 b = endOf (loopR 1 M (8 - j) j m q)) ∨
        ∃ er, QAt wr R B (.error er) ∧ decOf 1 b = .error er)) (fun _ i _ => 8 - (intOf i).toNat)
    case atStart => exact ⟨0, M, by omega, rfl, rfl, by simp, unhide HP3, unhide HB3, hbs, .inl ⟨mkMs k zParts, _, none, 0, none, 0, unhide HQ3, unhide HM3, hb0, fun _ => ⟨rfl, rfl, rfl⟩, fun _ => ⟨rfl, rfl, rfl⟩, unhide HALL⟩⟩
    case round =>
      clear HQ3 HM3 HP3 HB3 HALL hb0 hbs
      obtain ⟨j, Y, hj, rfl, rfl, hY, hp, hbe, hbs, hcase⟩ := hrel
      have HY := hide hY
      have HP := hide hp
      have HB := hide hbe
      have hYr := bit_range hY hM0 hM1
      clear hY hp hbe
      rcases hcase with ⟨m, q, A1, c1, vA1, vc1, hq, hmb2, how, h5, h6, hall⟩ | ⟨er, hq, hd⟩
      rotate_left
      · -- [b1
        have HD := hide (dec_bad v_one hd)
        obtain ⟨wE, rfl⟩ : ∃ u, u = wr := ⟨_, rfl⟩
        have HQE := hide hq
        have HP0 := HP
        have HBE := HB
        obtain ⟨fe1, ge1, ge2, hle⟩ := q_err hq
        clear hq hd
        by_cases hlt : j < 8
        ·
          obtain ⟨fe1, ge1, ge2, hle⟩ := q_err (unhide HQE)
          go_upto_region 21 with fail
          have gS : wE.drew.cell? ⟨R, 1, none⟩ = some (.int .i64 er) := fe1
          refine wp_region_L 4 (fun u => u.cell? ⟨R, 1, none⟩ = some (.int .i64 er)) (by kernel_rfl) ?_
          refine wpAnyL_take (i := 1) (v := ?_) [2,4] rfl (by kernel_rfl) (by kernel_rfl) (by kernel_rfl) (by kernel_rfl) (fun _ _ _ h => h) (Or.inl ⟨by kernel_rfl, ?_⟩) (by exact gS) ?_
          rotate_left
          · intro u hSu
            go_simp
            try with_reducible rfl
          try simp only [Act.put, List.setIfInBounds_toArray, List.set_cons_zero, List.set_cons_succ]
          refine wpAnyL_take (i := 2) (v := ?_) [4] rfl (by kernel_rfl) (by kernel_rfl) (by kernel_rfl) (by kernel_rfl) (fun _ _ _ h => h) (Or.inl ⟨by kernel_rfl, ?_⟩) (by exact gS) ?_
          rotate_left
          · intro u hSu
            go_simp
            try with_reducible rfl
          try simp only [Act.put, List.setIfInBounds_toArray, List.set_cons_zero, List.set_cons_succ]
          refine wpAnyL_take (i := 0) (v := ?_) [3,4] rfl (by kernel_rfl) (by kernel_rfl) (by kernel_rfl) (by kernel_rfl) (fun _ _ _ h => h) (Or.inl ⟨by kernel_rfl, ?_⟩) (by exact gS) ?_
          rotate_left
          · intro u hSu
            go_simp
            try with_reducible rfl
          try simp only [Act.put, List.setIfInBounds_toArray, List.set_cons_zero, List.set_cons_succ]
          refine wpAnyL_one (i := 3) (by kernel_rfl) rfl (fun K hK => ?_)
          refine if_wanted rfl (wp_store_mid 28 (.tmp 4) (.tmp 82) rfl p0 0 zeroMsg rfl rfl ((unhide HP0).drew.there (by show 0 + 14 ≤ 14; omega)) (by kernel_rfl) (by simp [Value.oneCell']) ?_)
          have hoS := Only.setCells (S := fun k => k = p0) (g := p0) rfl z14 0 wE.drew
          have hmS : Blk (wE.drew.setCells p0 0 z14) p0 28 zeroMsg := (unhide HP0).drew.setCells _ 0
          have gS2 : (wE.drew.setCells p0 0 z14).cell? ⟨R, 1, none⟩ = some (.int .i64 er) := (hoS.cell (a := ⟨R, 1, none⟩) hle (fun e => hpR e.symm)).trans gS
          have hbS := below_only (unhide HBE).drew (Nat.le_refl _) hoS (fun k hk => by rw [hk]; exact hwp)
          obtain ⟨wF, hwF⟩ : ∃ u, wE.drew.setCells p0 0 z14 = u := ⟨_, rfl⟩
          have hwF2 : wE.drew.setCells p0 0 (zeroMsg.toList) = wF := hwF
          rw [hwF] at hmS hbS gS2
          rw [hwF2]
          refine hK.out _ _ (fun _ => gS2) ?_
          clear hK K
          try simp only [Act.put, List.setIfInBounds_toArray, List.set_cons_zero, List.set_cons_succ]
          refine wpAnyL_one (i := 4) (by kernel_rfl) rfl (fun K hK => ?_)
          simp only [List.getElem_toArray, List.getElem_cons_succ, List.getElem_cons_zero]
          go_simp
          refine hK.out _ _ (fun h => absurd rfl h) ?_
          clear hK K
          try simp only [Act.put, List.setIfInBounds_toArray, List.set_cons_zero, List.set_cons_succ]
          refine wpAnyL_done (by kernel_rfl) ?_ _
          have HMS := hide hmS
          have HBS := hide hbS
          clear hmS hbS gS gS2 hwF hwF2 hoS fe1
          go_wp2_with fail
          exact bodyPost_ret (results_cellt rfl _ _ p0 zeroMsg _ rfl rfl (unhide HMS) rfl) rfl ⟨none, 0, none, 0, by rw [(unhide HD).1, (unhide HD).2]; rfl, by rw [(unhide HD).1]; exact mown0 _ _, unhide HBS⟩
        ·
          obtain ⟨fe1, ge1, ge2, hle⟩ := q_err (unhide HQE)
          go_upto_region 21 with fail
          have gS : wE.drew.cell? ⟨R, 1, none⟩ = some (.int .i64 er) := fe1
          refine wp_region_L 4 (fun u => u.cell? ⟨R, 1, none⟩ = some (.int .i64 er)) (by kernel_rfl) ?_
          refine wpAnyL_take (i := 1) (v := ?_) [2,4] rfl (by kernel_rfl) (by kernel_rfl) (by kernel_rfl) (by kernel_rfl) (fun _ _ _ h => h) (Or.inl ⟨by kernel_rfl, ?_⟩) (by exact gS) ?_
          rotate_left
          · intro u hSu
            go_simp
            try with_reducible rfl
          try simp only [Act.put, List.setIfInBounds_toArray, List.set_cons_zero, List.set_cons_succ]
          refine wpAnyL_take (i := 2) (v := ?_) [4] rfl (by kernel_rfl) (by kernel_rfl) (by kernel_rfl) (by kernel_rfl) (fun _ _ _ h => h) (Or.inl ⟨by kernel_rfl, ?_⟩) (by exact gS) ?_
          rotate_left
          · intro u hSu
            go_simp
            try with_reducible rfl
          try simp only [Act.put, List.setIfInBounds_toArray, List.set_cons_zero, List.set_cons_succ]
          refine wpAnyL_take (i := 0) (v := ?_) [3,4] rfl (by kernel_rfl) (by kernel_rfl) (by kernel_rfl) (by kernel_rfl) (fun _ _ _ h => h) (Or.inl ⟨by kernel_rfl, ?_⟩) (by exact gS) ?_
          rotate_left
          · intro u hSu
            go_simp
            try with_reducible rfl
          try simp only [Act.put, List.setIfInBounds_toArray, List.set_cons_zero, List.set_cons_succ]
          refine wpAnyL_one (i := 3) (by kernel_rfl) rfl (fun K hK => ?_)
          refine if_wanted rfl (wp_store_mid 28 (.tmp 4) (.tmp 82) rfl p0 0 zeroMsg rfl rfl ((unhide HP0).drew.there (by show 0 + 14 ≤ 14; omega)) (by kernel_rfl) (by simp [Value.oneCell']) ?_)
          have hoS := Only.setCells (S := fun k => k = p0) (g := p0) rfl z14 0 wE.drew
          have hmS : Blk (wE.drew.setCells p0 0 z14) p0 28 zeroMsg := (unhide HP0).drew.setCells _ 0
          have gS2 : (wE.drew.setCells p0 0 z14).cell? ⟨R, 1, none⟩ = some (.int .i64 er) := (hoS.cell (a := ⟨R, 1, none⟩) hle (fun e => hpR e.symm)).trans gS
          have hbS := below_only (unhide HBE).drew (Nat.le_refl _) hoS (fun k hk => by rw [hk]; exact hwp)
          obtain ⟨wF, hwF⟩ : ∃ u, wE.drew.setCells p0 0 z14 = u := ⟨_, rfl⟩
          have hwF2 : wE.drew.setCells p0 0 (zeroMsg.toList) = wF := hwF
          rw [hwF] at hmS hbS gS2
          rw [hwF2]
          refine hK.out _ _ (fun _ => gS2) ?_
          clear hK K
          try simp only [Act.put, List.setIfInBounds_toArray, List.set_cons_zero, List.set_cons_succ]
          refine wpAnyL_one (i := 4) (by kernel_rfl) rfl (fun K hK => ?_)
          simp only [List.getElem_toArray, List.getElem_cons_succ, List.getElem_cons_zero]
          go_simp
          refine hK.out _ _ (fun h => absurd rfl h) ?_
          clear hK K
          try simp only [Act.put, List.setIfInBounds_toArray, List.set_cons_zero, List.set_cons_succ]
          refine wpAnyL_done (by kernel_rfl) ?_ _
          have HMS := hide hmS
          have HBS := hide hbS
          clear hmS hbS gS gS2 hwF hwF2 hoS fe1
          go_wp2_with fail
          exact bodyPost_ret (results_cellt rfl _ _ p0 zeroMsg _ rfl rfl (unhide HMS) rfl) rfl ⟨none, 0, none, 0, by rw [(unhide HD).1, (unhide HD).2]; rfl, by rw [(unhide HD).1]; exact mown0 _ _, unhide HBS⟩
        -- b1]
      have HQ := hide hq
      have HM := hide hmb2
      have HW := hide how
      have H5 := hide h5
      have H6 := hide h6
      have HALL := hide hall
      obtain ⟨A3, c3, fq0, fq1, hRl⟩ := q_good hq
      have hml := hmb2.lt
      clear hq hmb2 how h5 h6 hall
      by_cases hlt : j < 8
      · -- [rd
        obtain ⟨n1, hn1⟩ : ∃ x, 8 - j = x + 1 := ⟨8 - j - 1, by omega⟩
        rw [hn1] at HALL
        rcases hbit : bit M j with _ | _
        · have gb : (Y % 2 == 1) = false := (bit_is (unhide HY)).trans hbit
          have HBIT := hide hbit
          clear hbit
          go_wp2_with fail
          have hls := loop_skip (v := 1) (n := n1) (m := m) (b := q) (unhide HBIT)
          refine ⟨⟨j + 1, Y / 2, by omega, by simp, rfl, bit_next (unhide HY), unhide HP, unhide HB, hbs, .inl ⟨m, q, A1, c1, vA1, vc1, unhide HQ, unhide HM, unhide HW, fun h => unhide H5 (by omega), fun h => unhide H6 (by omega), ?_⟩⟩, by simp only [intOf]; omega⟩
          rw [show 8 - (j + 1) = n1 by omega, ← hls]
          exact unhide HALL
        · have gb : (Y % 2 == 1) = true := (bit_is (unhide HY)).trans hbit
          have HBIT := hide hbit
          have HPT := hide (part_any 1 j hlt m A1 c1 vA1 vc1 R B mm base q wr (unhide HQ) (unhide HM) (unhide HW) hmR hBmm hmb hbs hRb (unhide H5) (unhide H6))
          clear hbit
          go_upto_region 15 with (go_at_call 44; (with_reducible refine Calls.mono (unhide HPT) ?_); go_must ((
             rintro e5 x5 hout
             have HOUT := hide hout
             obtain ⟨t, rfl⟩ : ∃ t : Bool, e5 = .returned (.bool t) := by
               rcases hout with ⟨er, t, cs, h1, h2, _⟩ | ⟨m', t, q', A', c', vA', vc', h1, h2, _⟩
               · exact ⟨t, h2⟩
               · exact ⟨t, h2⟩
             clear hout)))
          clear fq0 fq1
          rcases unhide HOUT with ⟨er, t2, cs, hps, he, hq5, hm5, hcs, ho5⟩ | ⟨m', t2, q5, A5, c5, vA5, vc5, hps, he, hq5, hm5, hw5, ho5, k5, k6⟩
          · -- [er
            have HLE := hide ((unhide HALL).trans (congrArg endOf (loop_err (unhide HBIT) hps)))
            have HQ5 := hide hq5
            have HP5 := hide ((unhide HP).only ho5 (fun e => by rcases e with e | e <;> omega))
            have HB5 := hide (below_only (unhide HB) (Nat.le_refl _) ho5 (fun k hk => by rcases hk with hk | hk <;> omega))
            have hbs5 := Nat.le_trans hbs ho5.size
            obtain ⟨fe1, ge1, ge2, hle⟩ := q_err hq5
            clear hps hq5 hm5 hcs ho5 HOUT he HPT
            go_wp2_with fail
            exact ⟨⟨j + 1, Y / 2, by omega, by simp, rfl, bit_next (unhide HY), unhide HP5, unhide HB5, hbs5, .inr ⟨er, unhide HQ5, unhide HLE⟩⟩, by simp only [intOf]; omega⟩
            -- er]
          · injection he with he
            injection he with he
            subst he
            have hkeep := step_keeps hps
            have HQ5 := hide hq5
            have HM5 := hide hm5
            have HW5 := hide hw5
            have HP5 := hide ((unhide HP).only ho5 (fun e => by rcases e with e | e <;> omega))
            have HB5 := hide (below_only (unhide HB) (Nat.le_refl _) ho5 (fun k hk => by rcases hk with hk | hk <;> omega))
            have hbs5 := Nat.le_trans hbs ho5.size
            have HPS := hide hps
            have HK5 : Hid (j + 1 ≤ 5 → m'.vers = [] ∧ A5 = none ∧ c5 = 0) := hide (fun h => by
              obtain ⟨a1, a2, a3⟩ := unhide H5 (by omega)
              obtain ⟨b1, b2⟩ := k5 (by omega)
              exact ⟨(hkeep.1 (by omega)).trans a1, b1.trans a2, b2.trans a3⟩)
            have HK6 : Hid (j + 1 ≤ 6 → m'.vec = [] ∧ vA5 = none ∧ vc5 = 0) := hide (fun h => by
              obtain ⟨a1, a2, a3⟩ := unhide H6 (by omega)
              obtain ⟨b1, b2⟩ := k6 (by omega)
              exact ⟨(hkeep.2 hlt (by omega)).trans a1, b1.trans a2, b2.trans a3⟩)
            obtain ⟨A6, c6, fr0, fr1, hRl5⟩ := q_good hq5
            have HSTQ := hide (unhide HST3 _ _ (unhide HQ5))
            clear hps hq5 hm5 hw5 ho5 k5 k6 hkeep HOUT HPT
            have hls := loop_go (v := 1) (n := n1) (m := m) (b := q) (unhide HBIT) (unhide HPS) (fun h => absurd h.1 (by decide))
            have HLS := hide hls
            clear hls
            go_wp2_with fail
            refine ⟨⟨j + 1, Y / 2, by omega, by simp, rfl, bit_next (unhide HY), unhide HP5, unhide HB5, hbs5, .inl ⟨m', q5, A5, c5, vA5, vc5, unhide HQ5, unhide HM5, unhide HW5, unhide HK5, unhide HK6, ?_⟩⟩, by simp only [intOf]; omega⟩
            rw [show 8 - (j + 1) = n1 by omega, ← unhide HLS]
            exact unhide HALL
        -- rd]
      · -- [fin
        have hj8 : j = 8 := by omega
        subst hj8
        have hend := unhide HALL
        rw [Nat.sub_self] at hend
        have hend : decOf 1 b = endOf (.ok (m, q)) := hend
        by_cases hql : q.length = 0
        · have hd : decOf 1 b = .ok m := by rw [hend]; exact if_pos hql
          have HD := hide (dec_good v_one hd)
          obtain rfl := List.eq_nil_of_length_eq_zero hql
          clear hql hend hd
          go_wp2_with (first
            | refine wpList_load_blk rfl 28 (.tmp 7) rfl (mm) rfl 28 _ _ ((unhide HM)) Try.underlying28 rfl (by kernel_rfl) ?_
            | (refine wpList_store_blk rfl 28 (.tmp 4) (.tmp 85) rfl p0 (mcells m A1 c1 vA1 vc1) (by rfl) (by rfl) 28 _ (unhide HP) (by kernel_rfl) rfl (by kernel_rfl) ?_
               intro x4 hb4 hg4
               have HM4 := hide hb4
               have HG4 := hide hg4
               clear hb4 hg4))
          have hog : Only (fun j => j = p0) wr x4 := Only.of_grown (unhide HG4) (fun k hk => by injection hk with hk; exact hk.symm)
          have how := unhide HW
          exact bodyPost_ret (results_cellt rfl _ _ p0 _ _ rfl rfl (unhide HM4) rfl) rfl ⟨A1, c1, vA1, vc1, by rw [(unhide HD).1, (unhide HD).2]; rfl, by
            rw [(unhide HD).1]
            exact ⟨own_more (own_only how.vers hog (fun g hg e => by have := (how.vers.lt g hg).1; omega)) (fun g hg => by have := (how.vers.lt g hg).1; omega), own_more (own_only how.vec hog (fun g hg e => by have := (how.vec.lt g hg).1; omega)) (fun g hg => by have := (how.vec.lt g hg).1; omega)⟩, below_only (unhide HB) (Nat.le_refl _) hog (fun k hk => by rw [hk]; exact hwp)⟩
        · have hd : decOf 1 b = .error 3 := by rw [hend]; exact if_neg hql
          have gl : 0 < q.length := by omega
          have HD := hide (dec_bad v_one hd)
          have HSTQ := hide (unhide HST3 _ _ (unhide HQ))
          clear hql hend hd
          go_upto_region 20 with (go_at_call 43; (with_reducible refine Calls.mono (unhide HSTQ) ?_); go_must ((
             rintro _ wE ⟨rfl, hq5, ho5⟩
             have HQE := hide hq5
             have HP0 := hide ((unhide HP).only ho5 (fun e => hpR e))
             have HBE := hide (below_only (unhide HB) (Nat.le_refl _) ho5 (fun k hk => by rw [hk]; exact hRw))
             clear hq5 ho5)))
          obtain ⟨er, her⟩ : ∃ er : Int, 3 = er := ⟨_, rfl⟩
          rw [her] at HD HQE
          clear her
          obtain ⟨fe1, ge1, ge2, hle⟩ := q_err (unhide HQE)
          go_upto_region 21 with fail
          have gS : wE.drew.cell? ⟨R, 1, none⟩ = some (.int .i64 er) := fe1
          refine wp_region_L 4 (fun u => u.cell? ⟨R, 1, none⟩ = some (.int .i64 er)) (by kernel_rfl) ?_
          refine wpAnyL_take (i := 1) (v := ?_) [2,4] rfl (by kernel_rfl) (by kernel_rfl) (by kernel_rfl) (by kernel_rfl) (fun _ _ _ h => h) (Or.inl ⟨by kernel_rfl, ?_⟩) (by exact gS) ?_
          rotate_left
          · intro u hSu
            go_simp
            try with_reducible rfl
          try simp only [Act.put, List.setIfInBounds_toArray, List.set_cons_zero, List.set_cons_succ]
          refine wpAnyL_take (i := 2) (v := ?_) [4] rfl (by kernel_rfl) (by kernel_rfl) (by kernel_rfl) (by kernel_rfl) (fun _ _ _ h => h) (Or.inl ⟨by kernel_rfl, ?_⟩) (by exact gS) ?_
          rotate_left
          · intro u hSu
            go_simp
            try with_reducible rfl
          try simp only [Act.put, List.setIfInBounds_toArray, List.set_cons_zero, List.set_cons_succ]
          refine wpAnyL_take (i := 0) (v := ?_) [3,4] rfl (by kernel_rfl) (by kernel_rfl) (by kernel_rfl) (by kernel_rfl) (fun _ _ _ h => h) (Or.inl ⟨by kernel_rfl, ?_⟩) (by exact gS) ?_
          rotate_left
          · intro u hSu
            go_simp
            try with_reducible rfl
          try simp only [Act.put, List.setIfInBounds_toArray, List.set_cons_zero, List.set_cons_succ]
          refine wpAnyL_one (i := 3) (by kernel_rfl) rfl (fun K hK => ?_)
          refine if_wanted rfl (wp_store_mid 28 (.tmp 4) (.tmp 82) rfl p0 0 zeroMsg rfl rfl ((unhide HP0).drew.there (by show 0 + 14 ≤ 14; omega)) (by kernel_rfl) (by simp [Value.oneCell']) ?_)
          have hoS := Only.setCells (S := fun k => k = p0) (g := p0) rfl z14 0 wE.drew
          have hmS : Blk (wE.drew.setCells p0 0 z14) p0 28 zeroMsg := (unhide HP0).drew.setCells _ 0
          have gS2 : (wE.drew.setCells p0 0 z14).cell? ⟨R, 1, none⟩ = some (.int .i64 er) := (hoS.cell (a := ⟨R, 1, none⟩) hle (fun e => hpR e.symm)).trans gS
          have hbS := below_only (unhide HBE).drew (Nat.le_refl _) hoS (fun k hk => by rw [hk]; exact hwp)
          obtain ⟨wF, hwF⟩ : ∃ u, wE.drew.setCells p0 0 z14 = u := ⟨_, rfl⟩
          have hwF2 : wE.drew.setCells p0 0 (zeroMsg.toList) = wF := hwF
          rw [hwF] at hmS hbS gS2
          rw [hwF2]
          refine hK.out _ _ (fun _ => gS2) ?_
          clear hK K
          try simp only [Act.put, List.setIfInBounds_toArray, List.set_cons_zero, List.set_cons_succ]
          refine wpAnyL_one (i := 4) (by kernel_rfl) rfl (fun K hK => ?_)
          simp only [List.getElem_toArray, List.getElem_cons_succ, List.getElem_cons_zero]
          go_simp
          refine hK.out _ _ (fun h => absurd rfl h) ?_
          clear hK K
          try simp only [Act.put, List.setIfInBounds_toArray, List.set_cons_zero, List.set_cons_succ]
          refine wpAnyL_done (by kernel_rfl) ?_ _
          have HMS := hide hmS
          have HBS := hide hbS
          clear hmS hbS gS gS2 hwF hwF2 hoS fe1
          go_wp2_with fail
          exact bodyPost_ret (results_cellt rfl _ _ p0 zeroMsg _ rfl rfl (unhide HMS) rfl) rfl ⟨none, 0, none, 0, by rw [(unhide HD).1, (unhide HD).2]; rfl, by rw [(unhide HD).1]; exact mown0 _ _, unhide HBS⟩
        -- fin]
end Go.Proofs.Ytkgacehnpdijaaa
