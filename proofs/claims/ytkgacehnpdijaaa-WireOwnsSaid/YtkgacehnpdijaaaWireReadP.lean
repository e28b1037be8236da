/- The program's reader of an elder body. -/
import Derived.Test.YtkgacehnpdijaaaWireRdA
import Derived.Test.YtkgacehnpdijaaaWireBody
import Derived.Test.YtkgacehnpdijaaaWireOrd
import Derived.Deep.RegionHeld3
namespace Go.Proofs.Ytkgacehnpdijaaa
set_option linter.unusedVariables false
set_option linter.unusedSimpArgs false
open Go.RowKit Wire

set_option maxHeartbeats 8000000 in
set_option maxRecDepth 20000 in
theorem r_elder (kd : Int) (R B mm : Nat) (b : List UInt8) (w : World) (hr : RAt w R B b) (hm : Blk w mm 28 (mcells (mkMs kd zParts) none 0 none 0)) (hne : mm ≠ R) (hBm : B ≤ mm) :
    Calls Try.prog 39 #[.pointer (some ⟨R, 0, none⟩), .pointer (some ⟨mm, 0, none⟩)] w (PtOut eldC.rd kd R B mm b w) := by
  have HF8 : Hid (∀ u b, RAt u R B b → Calls Try.prog 37 #[.pointer (some ⟨R, 0, none⟩), .int .i64 8] u (RdOut (fixC 8).rd (Value.int .u64) R B b u)) := fun u b h => r_fixed R B 8 b u h (by omega) (by omega)
  have HF4 : Hid (∀ u b, RAt u R B b → Calls Try.prog 37 #[.pointer (some ⟨R, 0, none⟩), .int .i64 4] u (RdOut (fixC 4).rd (Value.int .u64) R B b u)) := fun u b h => r_fixed R B 4 b u h (by omega) (by omega)
  have HF2 : Hid (∀ u b, RAt u R B b → Calls Try.prog 37 #[.pointer (some ⟨R, 0, none⟩), .int .i64 2] u (RdOut (fixC 2).rd (Value.int .u64) R B b u)) := fun u b h => r_fixed R B 2 b u h (by omega) (by omega)
  have HF1 : Hid (∀ u b, RAt u R B b → Calls Try.prog 37 #[.pointer (some ⟨R, 0, none⟩), .int .i64 1] u (RdOut (fixC 1).rd (Value.int .u64) R B b u)) := fun u b h => r_fixed R B 1 b u h (by omega) (by omega)
  have HS16 : Hid (∀ u b, RAt u R B b → Calls Try.prog 58 #[.pointer (some ⟨R, 0, none⟩), .int .i64 16] u (RdOut (textC (fixC 1) 16).rd Value.string R B b u)) := fun u b h => r_short R B 16 b u h (by omega) (by omega)
  have HS64 : Hid (∀ u b, RAt u R B b → Calls Try.prog 58 #[.pointer (some ⟨R, 0, none⟩), .int .i64 64] u (RdOut (textC (fixC 1) 64).rd Value.string R B b u)) := fun u b h => r_short R B 64 b u h (by omega) (by omega)
  have HFL : Hid (∀ u b, RAt u R B b → Calls Try.prog 60 #[.pointer (some ⟨R, 0, none⟩)] u (RdOut goneC.rd Value.bool R B b u)) := fun u b h => r_flag R B b u h
  have HE0 : Hid (eldC.rd b = mapE (fun p => p) (eldC.rd b)) := (mapE_id _).symm
  have HR0 := hide hr
  have HM0 := hide hm
  have HO0 := hide (Only.refl (fun k => k = R ∨ k = mm) w)
  have hml := hm.lt
  have hRw0 := hr.lt
  obtain ⟨i0, hi, hz0, hz1, hz2⟩ := info_parts verinfo
  obtain ⟨j0, hj, hj0, hj1, hj2⟩ := info_parts u64info
  clear hr hm
  go_enter Try.func39, Try.ntmps39
  go_upto_region 1 with (first
    | (go_at_call 37; (with_reducible refine Calls.mono (unhide HF8 _ _ (unhide HR0)) ?_); go_must ((
       rintro _ u1 hout
       rcases hout with ⟨er, h, rfl, ho⟩ | ⟨n1, r1, h, rfl, hr, ho⟩
       · unfold gaveUp
         go_wp2_with fail
         exact ⟨rfl, .inl ⟨er, (unhide HE0).trans (seq_err h), rfl, ⟨_, (unhide HM0).only ho (fun e => hne e), by rfl⟩, (unhide HO0).trans (only_R ho)⟩⟩
       have HE1 := hide ((unhide HE0).trans (seq_ok h))
       have HR1 := hide hr
       have hk := (unhide HM0).only ho (fun e => hne e)
       have HM1 := hide hk
       have HO1 := hide ((unhide HO0).trans (only_R ho))
       clear h hr ho hk)))
    | (go_at_call 37; (with_reducible refine Calls.mono (unhide HF8 _ _ (unhide HR1)) ?_); go_must ((
       rintro _ u2 hout
       rcases hout with ⟨er, h, rfl, ho⟩ | ⟨n2, r2, h, rfl, hr, ho⟩
       · unfold gaveUp
         go_wp2_with fail
         exact ⟨rfl, .inl ⟨er, (unhide HE1).trans (seq_err h), rfl, ⟨_, (unhide HM1).only ho (fun e => hne e), by rfl⟩, (unhide HO1).trans (only_R ho)⟩⟩
       have HE2 := hide ((unhide HE1).trans (seq_ok h))
       have HR2 := hide hr
       have hk := (unhide HM1).only ho (fun e => hne e)
       have HM2 := hide hk
       have HO2 := hide ((unhide HO1).trans (only_R ho))
       clear h hr ho hk)))
    | (go_at_call 37; (with_reducible refine Calls.mono (unhide HF8 _ _ (unhide HR2)) ?_); go_must ((
       rintro _ u3 hout
       rcases hout with ⟨er, h, rfl, ho⟩ | ⟨n3, r3, h, rfl, hr, ho⟩
       · unfold gaveUp
         go_wp2_with fail
         exact ⟨rfl, .inl ⟨er, (unhide HE2).trans (seq_err h), rfl, ⟨_, (unhide HM2).only ho (fun e => hne e), by rfl⟩, (unhide HO2).trans (only_R ho)⟩⟩
       have HE3 := hide ((unhide HE2).trans (seq_ok h))
       have HR3 := hide hr
       have hk := (unhide HM2).only ho (fun e => hne e)
       have HM3 := hide hk
       have HO3 := hide ((unhide HO2).trans (only_R ho))
       obtain ⟨f0, f1, f2, f3, f4, f5, f6, f7, f8, f9, f10, f11, f12, f13⟩ := mAt hk
       have z1 := hk.frozen 1
       have z2 := hk.frozen 2
       have z3 := hk.frozen 3
       clear h hr ho hk)))
    )
  obtain ⟨u4, hu4⟩ : ∃ u, (((u3.setCell ⟨mm, 1, none⟩ (.int .u64 n1)).setCell ⟨mm, 2, none⟩ (.int .u64 n2)).setCell ⟨mm, 3, none⟩ (.int .u64 n3)) = u := ⟨_, rfl⟩
  have ho4 : Only (fun k => k = mm) u3 u4 := by rw [← hu4]; exact ((((Only.refl (fun k => k = mm) u3).setCell (p := ⟨mm, 1, none⟩) rfl (.int .u64 n1)).setCell (p := ⟨mm, 2, none⟩) rfl (.int .u64 n2)).setCell (p := ⟨mm, 3, none⟩) rfl (.int .u64 n3))
  have HM4 : Hid (Blk u4 mm 28 (mcells (mkMs kd (n1, n2, n3, ByteArray.empty, ByteArray.empty, [], [], Wire.cmd0)) none 0 none 0)) := hide (by rw [← hu4]; exact ((((unhide HM3).set_ 1 (.int .u64 n1)).set_ 2 (.int .u64 n2)).set_ 3 (.int .u64 n3)))
  have HR4 := hide ((unhide HR3).only ho4 (fun k hk => by subst hk; exact ⟨hBm, hne⟩))
  have HO4 := hide ((unhide HO3).trans (ho4.mono fun k _ hk => .inr hk))
  have HE4 := HE3
  rw [hu4]
  clear hu4 ho4 f0 f1 f2 f3 f4 f5 f6 f7 f8 f9 f10 f11 f12 f13
  clear z1 z2 z3
  go_upto_region 2 with (first
    | (go_at_call 58; (with_reducible refine Calls.mono (unhide HS16 _ _ (unhide HR4)) ?_); go_must ((
       rintro _ u5 hout
       rcases hout with ⟨er, h, rfl, ho⟩ | ⟨n5, r5, h, rfl, hr, ho⟩
       · unfold gaveUp
         go_wp2_with fail
         exact ⟨rfl, .inl ⟨er, (unhide HE4).trans (seq_err h), rfl, ⟨_, (unhide HM4).only ho (fun e => hne e), by rfl⟩, (unhide HO4).trans (only_R ho)⟩⟩
       have HE5 := hide ((unhide HE4).trans (seq_ok h))
       have HR5 := hide hr
       have hk := (unhide HM4).only ho (fun e => hne e)
       have HM5 := hide hk
       have HO5 := hide ((unhide HO4).trans (only_R ho))
       clear h hr ho hk)))
    | (go_at_call 58; (with_reducible refine Calls.mono (unhide HS16 _ _ (unhide HR5)) ?_); go_must ((
       rintro _ u6 hout
       rcases hout with ⟨er, h, rfl, ho⟩ | ⟨n6, r6, h, rfl, hr, ho⟩
       · unfold gaveUp
         go_wp2_with fail
         exact ⟨rfl, .inl ⟨er, (unhide HE5).trans (seq_err h), rfl, ⟨_, (unhide HM5).only ho (fun e => hne e), by rfl⟩, (unhide HO5).trans (only_R ho)⟩⟩
       have HE6 := hide ((unhide HE5).trans (seq_ok h))
       have HR6 := hide hr
       have hk := (unhide HM5).only ho (fun e => hne e)
       have HM6 := hide hk
       have HO6 := hide ((unhide HO5).trans (only_R ho))
       obtain ⟨f0, f1, f2, f3, f4, f5, f6, f7, f8, f9, f10, f11, f12, f13⟩ := mAt hk
       have z4 := hk.frozen 4
       have z5 := hk.frozen 5
       clear h hr ho hk)))
    )
  obtain ⟨u7, hu7⟩ : ∃ u, ((u6.setCell ⟨mm, 4, none⟩ (.string n5)).setCell ⟨mm, 5, none⟩ (.string n6)) = u := ⟨_, rfl⟩
  have ho7 : Only (fun k => k = mm) u6 u7 := by rw [← hu7]; exact (((Only.refl (fun k => k = mm) u6).setCell (p := ⟨mm, 4, none⟩) rfl (.string n5)).setCell (p := ⟨mm, 5, none⟩) rfl (.string n6))
  have HM7 : Hid (Blk u7 mm 28 (mcells (mkMs kd (n1, n2, n3, n5, n6, [], [], Wire.cmd0)) none 0 none 0)) := hide (by rw [← hu7]; exact (((unhide HM6).set_ 4 (.string n5)).set_ 5 (.string n6)))
  have HR7 := hide ((unhide HR6).only ho7 (fun k hk => by subst hk; exact ⟨hBm, hne⟩))
  have HO7 := hide ((unhide HO6).trans (ho7.mono fun k _ hk => .inr hk))
  have HE7 := HE6
  rw [hu7]
  clear hu7 ho7 f0 f1 f2 f3 f4 f5 f6 f7 f8 f9 f10 f11 f12 f13
  clear z4 z5
  go_wp2_with (first
    | (go_at_call 37; (with_reducible refine Calls.mono (unhide HF2 _ _ (unhide HR7)) ?_); go_must ((
       rintro _ u8 hout
       rcases hout with ⟨er, h, rfl, ho⟩ | ⟨n8, r8, h, rfl, hr, ho⟩
       · unfold gaveUp
         go_wp2_with fail
         exact ⟨rfl, .inl ⟨er, (unhide HE7).trans (seq_err (row_err (most_err h))), rfl, ⟨_, (unhide HM7).only ho (fun e => hne e), by rfl⟩, (unhide HO7).trans (only_R ho)⟩⟩
       have h80 := ((fix_law 2).bwd _ _ _ h).1.1
       have H8 := hide h
       have HR8 := hide hr
       have HM8 := hide ((unhide HM7).only ho (fun e => hne e))
       have HO8 := hide ((unhide HO7).trans (only_R ho))
       clear h hr ho)))
    | (go_at_call 59; go_must ((
       by_cases hn8 : 4096 < n8
       · refine Calls.mono (least_bad _ n8 4096 6 _ (by omega) hn8 (by omega) (by omega)) ?_
         rintro _ ux ⟨rfl, rfl⟩
         unfold gaveUp
         go_wp2_with fail
         exact ⟨rfl, .inl ⟨6, (unhide HE7).trans (seq_err (row_err (most_long (unhide H8) hn8))), rfl, ⟨_, unhide HM8, by rfl⟩, unhide HO8⟩⟩
       refine Calls.mono (least_ok _ n8 4096 6 _ h80 (by omega) (by omega)) ?_
       rintro _ ux ⟨rfl, rfl⟩
       have HROW : Hid ((verRow fixC false).rd r6 = rdL (verC fixC false) (fun v => v.ts) n8.toNat 0 r8) := hide (row_rd (c := verC fixC false) (next := fun v => v.ts) (s := 0) (most_go (unhide H8) h80 (by omega)))
       obtain ⟨N, rfl⟩ := Int.eq_ofNat_of_zero_le h80
       have hN : N ≤ 4096 := by omega
       clear hn8))))
  have hw8 := (unhide HO8).size
  go_loopw [35] (fun i wr => ∃ (k : Nat) (acc : List Vr) (bb : List UInt8) (A : Option Addr) (c : Nat), k ≤ N ∧ i = .int .i64 k ∧ acc.length = k ∧ RAt wr R B bb ∧ Blk wr mm 28 (mcells (mkMs kd (n1, n2, n3, n5, n6, acc, [], Wire.cmd0)) A c none 0) ∧ wr.ownsRow w.heap.size 49 6 (.slice A acc.length c) acc.length (vrow acc) ∧ Only (fun k => k = R ∨ k = mm) w wr ∧ (verRow fixC false).rd r6 = mapE (fun l => acc ++ l) (rdL (verC fixC false) (fun v => v.ts) (N - k) (lastOr 0 acc) bb)) (fun i _ => N - (intOf i).toNat)
  case atStart => exact ⟨0, [], r8, none, 0, by omega, rfl, rfl, unhide HR8, unhide HM8, own_nil _ _ _ _, unhide HO8, (unhide HROW).trans (mapE_id _).symm⟩
  case round =>
    obtain ⟨k, acc, bb, A, c, hk, rfl, hacc, hr, hm, hown, ho, hrow⟩ := hrel
    clear HR8 HM8 HO8 HROW
    have HR8 := hide hr; have HM8 := hide hm; have HW8 := hide hown; have HO8 := hide ho; have HROW := hide hrow
    have HACC := hide hacc
    clear hr hm hown ho hrow hacc
    by_cases hlt : k < N
    ·
      obtain ⟨s, hs⟩ : ∃ s, lastOr 0 acc = s := ⟨_, rfl⟩
      obtain ⟨N1, hN1⟩ : ∃ x, N - k = x + 1 := ⟨N - k - 1, by omega⟩
      rw [hs, hN1] at HROW
      have hal : acc.length ≤ 4096 := by rw [unhide HACC]; omega
      have HBAD : Hid (∀ er, (verC fixC false s).rd bb = .error er → eldC.rd b = .error er) := hide (fun er h => (unhide HE7).trans (seq_err ((unhide HROW).trans (list_err h))))
      have HV0 : Hid ((verC fixC false s).rd bb = mapE (fun p => (⟨p.1, p.2.1, p.2.2.1, p.2.2.2.1, p.2.2.2.2.1, p.2.2.2.2.2⟩ : Vr)) ((seqC (textC (fixC 1) 16) fun _ => seqC (textC (fixC 1) 64) fun _ => seqC goneC fun _ => seqC (stampC (fixC 8) 0) fun _ => seqC (most (fixC 1) 3 1) fun _ => most (fixC 4) 1073741824 1).rd bb)) := hide iso_rd
      have f6 : wr.cell? ⟨mm, 6, none⟩ = some (.slice A acc.length c) := (unhide HM8).cell 6
      have VR0 : Hid (RAt wr.drew R B bb) := HR8
      have VM0 : Hid (Blk wr.drew mm 28 (mcells (mkMs kd (n1, n2, n3, n5, n6, acc, [], Wire.cmd0)) A c none 0)) := HM8
      have VO0 : Hid (Only (fun k => k = R ∨ k = mm) w wr.drew) := hide (unhide HO8).drew
      have VW0 : Hid (wr.drew.ownsRow w.heap.size 49 6 (.slice A acc.length c) acc.length (vrow acc)) := HW8
      have hRw : R < w.heap.size := hRw0
      go_upto_region 4 with fail
      have f6d : wr.drew.cell? ⟨mm, 6, none⟩ = some (.slice A acc.length c) := f6
      refine wp_region_L 26 (fun u => u.cell? ⟨mm, 6, none⟩ = some (.slice A acc.length c)) (by kernel_rfl) ?_
      refine wpAnyL_take (i := 0) (v := ?_) [24,25,26] rfl (by kernel_rfl) (by kernel_rfl) (by kernel_rfl) (by kernel_rfl) (fun _ _ _ h => h) (Or.inl ⟨by kernel_rfl, ?_⟩) (by exact f6d) ?_
      rotate_left
      · intro u hSu
        go_simp
        try with_reducible rfl
      try simp only [Act.put, List.setIfInBounds_toArray, List.set_cons_zero, List.set_cons_succ]
      refine wpAnyL_take (i := 1) (v := ?_) [2,3,4,23,26] rfl (by kernel_rfl) (by kernel_rfl) (by kernel_rfl) (by kernel_rfl) (fun _ _ _ h => h) (Or.inl ⟨by kernel_rfl, ?_⟩) (by exact f6d) ?_
      rotate_left
      · intro u hSu
        go_simp
        try with_reducible rfl
      try simp only [Act.put, List.setIfInBounds_toArray, List.set_cons_zero, List.set_cons_succ]
      refine wpAnyL_take (i := 2) (v := ?_) [3,4,23,26] rfl (by kernel_rfl) (by kernel_rfl) (by kernel_rfl) (by kernel_rfl) (fun _ _ _ h => h) (Or.inl ⟨by kernel_rfl, ?_⟩) (by exact f6d) ?_
      rotate_left
      · intro u hSu
        go_simp
        try with_reducible rfl
      try simp only [Act.put, List.setIfInBounds_toArray, List.set_cons_zero, List.set_cons_succ]
      refine wpAnyL_take (i := 3) (v := ?_) [4,23,26] rfl (by kernel_rfl) (by kernel_rfl) (by kernel_rfl) (by kernel_rfl) (fun _ _ _ h => h) (Or.inl ⟨by kernel_rfl, ?_⟩) (by exact f6d) ?_
      rotate_left
      · intro u hSu
        go_simp
        try with_reducible rfl
      try simp only [Act.put, List.setIfInBounds_toArray, List.set_cons_zero, List.set_cons_succ]
      refine wpAnyL_take (i := 4) (v := ?_) [23,26] rfl (by kernel_rfl) (by kernel_rfl) (by kernel_rfl) (by kernel_rfl) (fun _ _ _ h => h) (Or.inl ⟨by kernel_rfl, ?_⟩) (by exact f6d) ?_
      rotate_left
      · intro u hSu
        go_simp
        try with_reducible rfl
      try simp only [Act.put, List.setIfInBounds_toArray, List.set_cons_zero, List.set_cons_succ]
      refine wpAnyL_take (i := 5) (v := ?_) [6,21,22,23,26] rfl (by kernel_rfl) (by kernel_rfl) (by kernel_rfl) (by kernel_rfl) (fun _ _ _ h => h) (Or.inl ⟨by kernel_rfl, ?_⟩) (by exact f6d) ?_
      rotate_left
      · intro u hSu
        go_simp
        try with_reducible rfl
      try simp only [Act.put, List.setIfInBounds_toArray, List.set_cons_zero, List.set_cons_succ]
      refine wpAnyL_take (i := 7) (v := ?_) [8,21,22,23,26] rfl (by kernel_rfl) (by kernel_rfl) (by kernel_rfl) (by kernel_rfl) (fun _ _ _ h => h) (Or.inl ⟨by kernel_rfl, ?_⟩) (by exact f6d) ?_
      rotate_left
      · intro u hSu
        go_simp
        try with_reducible rfl
      try simp only [Act.put, List.setIfInBounds_toArray, List.set_cons_zero, List.set_cons_succ]
      refine wpAnyL_take (i := 9) (v := ?_) [10,21,22,23,26] rfl (by kernel_rfl) (by kernel_rfl) (by kernel_rfl) (by kernel_rfl) (fun _ _ _ h => h) (Or.inl ⟨by kernel_rfl, ?_⟩) (by exact f6d) ?_
      rotate_left
      · intro u hSu
        go_simp
        try with_reducible rfl
      try simp only [Act.put, List.setIfInBounds_toArray, List.set_cons_zero, List.set_cons_succ]
      refine wpAnyL_take (i := 11) (v := ?_) [12,21,22,23,26] rfl (by kernel_rfl) (by kernel_rfl) (by kernel_rfl) (by kernel_rfl) (fun _ _ _ h => h) (Or.inl ⟨by kernel_rfl, ?_⟩) (by exact f6d) ?_
      rotate_left
      · intro u hSu
        go_simp
        try with_reducible rfl
      try simp only [Act.put, List.setIfInBounds_toArray, List.set_cons_zero, List.set_cons_succ]
      refine wpAnyL_take (i := 13) (v := ?_) [16,21,22,23,26] rfl (by kernel_rfl) (by kernel_rfl) (by kernel_rfl) (by kernel_rfl) (fun _ _ _ h => h) (Or.inl ⟨by kernel_rfl, ?_⟩) (by exact f6d) ?_
      rotate_left
      · intro u hSu
        go_simp
        try with_reducible rfl
      try simp only [Act.put, List.setIfInBounds_toArray, List.set_cons_zero, List.set_cons_succ]
      refine wpAnyL_take (i := 14) (v := ?_) [15,16,21,22,23,26] rfl (by kernel_rfl) (by kernel_rfl) (by kernel_rfl) (by kernel_rfl) (fun _ _ _ h => h) (Or.inl ⟨by kernel_rfl, ?_⟩) (by exact f6d) ?_
      rotate_left
      · intro u hSu
        go_simp
        try with_reducible rfl
      try simp only [Act.put, List.setIfInBounds_toArray, List.set_cons_zero, List.set_cons_succ]
      refine wpAnyL_take (i := 17) (v := ?_) [20,21,22,23,26] rfl (by kernel_rfl) (by kernel_rfl) (by kernel_rfl) (by kernel_rfl) (fun _ _ _ h => h) (Or.inl ⟨by kernel_rfl, ?_⟩) (by exact f6d) ?_
      rotate_left
      · intro u hSu
        go_simp
        try with_reducible rfl
      try simp only [Act.put, List.setIfInBounds_toArray, List.set_cons_zero, List.set_cons_succ]
      refine wpAnyL_take (i := 18) (v := ?_) [19,20,21,22,23,26] rfl (by kernel_rfl) (by kernel_rfl) (by kernel_rfl) (by kernel_rfl) (fun _ _ _ h => h) (Or.inl ⟨by kernel_rfl, ?_⟩) (by exact f6d) ?_
      rotate_left
      · intro u hSu
        go_simp
        try with_reducible rfl
      try simp only [Act.put, List.setIfInBounds_toArray, List.set_cons_zero, List.set_cons_succ]
      refine wpAnyL_one (i := 6) (by kernel_rfl) rfl (fun K hK => ?_)
      go_simp
      go_at_call 58
      (with_reducible refine Calls.mono (unhide HS16 _ _ (unhide VR0)) ?_)
      rintro _ x1 hout
      rcases hout with ⟨er, h, rfl, ho⟩ | ⟨v1, q1, h, rfl, hr, ho⟩
      · unfold gaveUp
        go_wp2_with fail
        exact ⟨rfl, .inl ⟨er, unhide HBAD er ((unhide HV0).trans (seq_err (h))), rfl, ⟨_, (unhide VM0).only ho (fun e => hne e), by rfl⟩, (unhide VO0).trans (only_R ho)⟩⟩
      have HV1 := hide ((unhide HV0).trans (seq_ok (h)))
      have VR1 := hide hr
      have hk := (unhide VM0).only ho (fun e => hne e)
      have VM1 := hide hk
      have VO1 := hide ((unhide VO0).trans (only_R ho))
      have VW1 := hide (own_only (unhide VW0) ho (fun k hk e => by have := ((unhide VW0).lt k hk).1; omega))
      have f6 : x1.cell? ⟨mm, 6, none⟩ = some (.slice A acc.length c) := hk.cell 6
      have z6 := hk.frozen 6
      clear h hr ho hk
      refine hK.out _ _ (fun _ => f6) ?_
      clear hK K
      try simp only [Act.put, List.setIfInBounds_toArray, List.set_cons_zero, List.set_cons_succ]
      refine wpAnyL_one (i := 8) (by kernel_rfl) rfl (fun K hK => ?_)
      go_simp
      go_at_call 58
      (with_reducible refine Calls.mono (unhide HS64 _ _ (unhide VR1)) ?_)
      rintro _ x2 hout
      rcases hout with ⟨er, h, rfl, ho⟩ | ⟨v2, q2, h, rfl, hr, ho⟩
      · unfold gaveUp
        go_wp2_with fail
        exact ⟨rfl, .inl ⟨er, unhide HBAD er ((unhide HV1).trans (seq_err (h))), rfl, ⟨_, (unhide VM1).only ho (fun e => hne e), by rfl⟩, (unhide VO1).trans (only_R ho)⟩⟩
      have HV2 := hide ((unhide HV1).trans (seq_ok (h)))
      have VR2 := hide hr
      have hk := (unhide VM1).only ho (fun e => hne e)
      have VM2 := hide hk
      have VO2 := hide ((unhide VO1).trans (only_R ho))
      have VW2 := hide (own_only (unhide VW1) ho (fun k hk e => by have := ((unhide VW1).lt k hk).1; omega))
      have f6 : x2.cell? ⟨mm, 6, none⟩ = some (.slice A acc.length c) := hk.cell 6
      have z6 := hk.frozen 6
      clear h hr ho hk
      refine hK.out _ _ (fun _ => f6) ?_
      clear hK K
      try simp only [Act.put, List.setIfInBounds_toArray, List.set_cons_zero, List.set_cons_succ]
      refine wpAnyL_one (i := 10) (by kernel_rfl) rfl (fun K hK => ?_)
      go_simp
      go_at_call 60
      (with_reducible refine Calls.mono (unhide HFL _ _ (unhide VR2)) ?_)
      rintro _ x3 hout
      rcases hout with ⟨er, h, rfl, ho⟩ | ⟨v3, q3, h, rfl, hr, ho⟩
      · unfold gaveUp
        go_wp2_with fail
        exact ⟨rfl, .inl ⟨er, unhide HBAD er ((unhide HV2).trans (seq_err (h))), rfl, ⟨_, (unhide VM2).only ho (fun e => hne e), by rfl⟩, (unhide VO2).trans (only_R ho)⟩⟩
      have HV3 := hide ((unhide HV2).trans (seq_ok (h)))
      have VR3 := hide hr
      have hk := (unhide VM2).only ho (fun e => hne e)
      have VM3 := hide hk
      have VO3 := hide ((unhide VO2).trans (only_R ho))
      have VW3 := hide (own_only (unhide VW2) ho (fun k hk e => by have := ((unhide VW2).lt k hk).1; omega))
      have f6 : x3.cell? ⟨mm, 6, none⟩ = some (.slice A acc.length c) := hk.cell 6
      have z6 := hk.frozen 6
      clear h hr ho hk
      refine hK.out _ _ (fun _ => f6) ?_
      clear hK K
      try simp only [Act.put, List.setIfInBounds_toArray, List.set_cons_zero, List.set_cons_succ]
      refine wpAnyL_one (i := 12) (by kernel_rfl) rfl (fun K hK => ?_)
      go_simp
      go_at_call 37
      (with_reducible refine Calls.mono (unhide HF8 _ _ (unhide VR3)) ?_)
      rintro _ x4 hout
      rcases hout with ⟨er, h, rfl, ho⟩ | ⟨v4, q4, h, rfl, hr, ho⟩
      · unfold gaveUp
        go_wp2_with fail
        exact ⟨rfl, .inl ⟨er, unhide HBAD er ((unhide HV3).trans (seq_err ((stamp8 _).trans h))), rfl, ⟨_, (unhide VM3).only ho (fun e => hne e), by rfl⟩, (unhide VO3).trans (only_R ho)⟩⟩
      have HV4 := hide ((unhide HV3).trans (seq_ok ((stamp8 _).trans h)))
      have VR4 := hide hr
      have hk := (unhide VM3).only ho (fun e => hne e)
      have VM4 := hide hk
      have VO4 := hide ((unhide VO3).trans (only_R ho))
      have VW4 := hide (own_only (unhide VW3) ho (fun k hk e => by have := ((unhide VW3).lt k hk).1; omega))
      have f6 : x4.cell? ⟨mm, 6, none⟩ = some (.slice A acc.length c) := hk.cell 6
      have z6 := hk.frozen 6
      clear h hr ho hk
      refine hK.out _ _ (fun _ => f6) ?_
      clear hK K
      try simp only [Act.put, List.setIfInBounds_toArray, List.set_cons_zero, List.set_cons_succ]
      refine wpAnyL_one (i := 15) (by kernel_rfl) rfl (fun K hK => ?_)
      go_simp
      go_at_call 37
      (with_reducible refine Calls.mono (unhide HF1 _ _ (unhide VR4)) ?_)
      rintro _ x5 hout
      rcases hout with ⟨er, h, rfl, ho⟩ | ⟨v5, q5, h, rfl, hr, ho⟩
      · unfold gaveUp
        go_wp2_with fail
        exact ⟨rfl, .inl ⟨er, unhide HBAD er ((unhide HV4).trans (seq_err (most_err h))), rfl, ⟨_, (unhide VM4).only ho (fun e => hne e), by rfl⟩, (unhide VO4).trans (only_R ho)⟩⟩
      have hv50 := ((fix_law 1).bwd _ _ _ h).1.1
      have H5 := hide h
      have VR5 := hide hr
      have hk := (unhide VM4).only ho (fun e => hne e)
      have VM5 := hide hk
      have VO5 := hide ((unhide VO4).trans (only_R ho))
      have VW5 := hide (own_only (unhide VW4) ho (fun k hk e => by have := ((unhide VW4).lt k hk).1; omega))
      have f6 : x5.cell? ⟨mm, 6, none⟩ = some (.slice A acc.length c) := hk.cell 6
      have z6 := hk.frozen 6
      clear h hr ho hk
      refine hK.out _ _ (fun _ => f6) ?_
      clear hK K
      try simp only [Act.put, List.setIfInBounds_toArray, List.set_cons_zero, List.set_cons_succ]
      refine wpAnyL_one (i := 16) (by kernel_rfl) rfl (fun K hK => ?_)
      go_simp
      go_at_call 59
      by_cases hn5 : 3 < v5
      · (with_reducible refine Calls.mono (least_bad _ v5 3 1 _ (by omega) hn5 (by omega) (by omega)) ?_)
        rintro _ ux ⟨rfl, rfl⟩
        unfold gaveUp
        go_wp2_with fail
        exact ⟨rfl, .inl ⟨1, unhide HBAD 1 ((unhide HV4).trans (seq_err (most_long (unhide H5) hn5))), rfl, ⟨_, unhide VM5, by rfl⟩, unhide VO5⟩⟩
      (with_reducible refine Calls.mono (least_ok _ v5 3 1 _ hv50 (by omega) (by omega)) ?_)
      rintro _ ux ⟨rfl, rfl⟩
      have HV5 := hide ((unhide HV4).trans (seq_ok (most_go (unhide H5) hv50 (by omega))))
      refine hK.out _ _ (fun _ => f6) ?_
      clear hK K
      try simp only [Act.put, List.setIfInBounds_toArray, List.set_cons_zero, List.set_cons_succ]
      refine wpAnyL_one (i := 19) (by kernel_rfl) rfl (fun K hK => ?_)
      go_simp
      go_at_call 37
      (with_reducible refine Calls.mono (unhide HF4 _ _ (unhide VR5)) ?_)
      rintro _ x6 hout
      rcases hout with ⟨er, h, rfl, ho⟩ | ⟨v6, q6, h, rfl, hr, ho⟩
      · unfold gaveUp
        go_wp2_with fail
        exact ⟨rfl, .inl ⟨er, unhide HBAD er ((unhide HV5).trans (end_err (most_err h))), rfl, ⟨_, (unhide VM5).only ho (fun e => hne e), by rfl⟩, (unhide VO5).trans (only_R ho)⟩⟩
      have hv60 := ((fix_law 4).bwd _ _ _ h).1.1
      have H6 := hide h
      have VR6 := hide hr
      have hk := (unhide VM5).only ho (fun e => hne e)
      have VM6 := hide hk
      have VO6 := hide ((unhide VO5).trans (only_R ho))
      have VW6 := hide (own_only (unhide VW5) ho (fun k hk e => by have := ((unhide VW5).lt k hk).1; omega))
      have f6 : x6.cell? ⟨mm, 6, none⟩ = some (.slice A acc.length c) := hk.cell 6
      have z6 := hk.frozen 6
      have hml6 := hk.lt
      clear h hr ho hk
      refine hK.out _ _ (fun _ => f6) ?_
      clear hK K
      try simp only [Act.put, List.setIfInBounds_toArray, List.set_cons_zero, List.set_cons_succ]
      refine wpAnyL_one (i := 20) (by kernel_rfl) rfl (fun K hK => ?_)
      go_simp
      go_at_call 59
      by_cases hn6 : 1073741824 < v6
      · (with_reducible refine Calls.mono (least_bad _ v6 1073741824 1 _ (by omega) hn6 (by omega) (by omega)) ?_)
        rintro _ ux ⟨rfl, rfl⟩
        unfold gaveUp
        go_wp2_with fail
        exact ⟨rfl, .inl ⟨1, unhide HBAD 1 ((unhide HV5).trans (end_err (most_long (unhide H6) hn6))), rfl, ⟨_, unhide VM6, by rfl⟩, unhide VO6⟩⟩
      (with_reducible refine Calls.mono (least_ok _ v6 1073741824 1 _ hv60 (by omega) (by omega)) ?_)
      rintro _ ux ⟨rfl, rfl⟩
      have HVV := hide ((unhide HV5).trans (end_ok (most_go (unhide H6) hv60 (by omega))))
      refine hK.out _ _ (fun _ => f6) ?_
      clear hK K
      try simp only [Act.put, List.setIfInBounds_toArray, List.set_cons_zero, List.set_cons_succ]
      refine wpAnyL_one (i := 21) (by kernel_rfl) rfl (fun K hK => ?_)
      go_simp
      refine hK.out _ _ (fun _ => f6) ?_
      clear hK K
      try simp only [Act.put, List.setIfInBounds_toArray, List.set_cons_zero, List.set_cons_succ]
      refine wpAnyL_one (i := 22) (by kernel_rfl) rfl (fun K hK => ?_)
      go_simp
      have f6a := ((unhide VM6).alloc (.cells #[.string v1, .string v2, .bool v3, .int .u64 v4, .int .i64 v5, .int .i64 v6] 49)).cell 6
      refine hK.out _ _ (fun _ => f6a) ?_
      clear hK K
      try simp only [Act.put, List.setIfInBounds_toArray, List.set_cons_zero, List.set_cons_succ]
      refine wpAnyL_one (i := 23) (by kernel_rfl) rfl (fun K hK => ?_)
      refine step_append_any _ rfl (.tmp 41) (.tmp 59) _ rfl w.heap.size 49 i0 _ 6 64 Try.underlying23 hi hz0 hz1 hz2 (by rfl) (by omega) (.slice A acc.length c) acc.length _ (by rfl) ((unhide VW6).alloc _) _ (some ⟨x6.heap.size, 0, none⟩) 1 1 (vcs ⟨v1, v2, v3, v4, v5, v6⟩) (by rfl) (rdV_new x6 (vcs ⟨v1, v2, v3, v4, v5, v6⟩).toArray _ _) (by rfl) (vcs_one _) (by simp only [maxLen]; omega) (by omega) (by have := (unhide VO6).size; simp; omega) ?_
      intro A7 c7 x7 hown7 hg7 hat7 hbel7 hcc7
      have hb7 := ((unhide VM6).alloc (.cells #[.string v1, .string v2, .bool v3, .int .u64 v4, .int .i64 v5, .int .i64 v6] 49)).grown hg7 (fun e => by have := ((unhide VW6).lt mm e.symm).1; omega)
      have f6 : x7.cell? ⟨mm, 6, none⟩ = some (.slice A acc.length c) := hb7.cell 6
      have z6 := hb7.frozen 6
      have VM7 := hide hb7
      have VW7 := hide hown7
      have VG7 := hide hg7
      clear hown7 hg7 hat7 hbel7 hb7
      refine hK.out _ _ (fun _ => f6) ?_
      clear hK K
      try simp only [Act.put, List.setIfInBounds_toArray, List.set_cons_zero, List.set_cons_succ]
      refine wpAnyL_one (i := 24) (by kernel_rfl) rfl (fun K hK => ?_)
      go_simp
      refine hK.out _ _ (fun _ => f6) ?_
      clear hK K
      try simp only [Act.put, List.setIfInBounds_toArray, List.set_cons_zero, List.set_cons_succ]
      refine wpAnyL_one (i := 25) (by kernel_rfl) rfl (fun K hK => ?_)
      go_simp
      refine hK.out _ _ (fun _ => f6) ?_
      clear hK K
      try simp only [Act.put, List.setIfInBounds_toArray, List.set_cons_zero, List.set_cons_succ]
      refine wpAnyL_one (i := 26) (by kernel_rfl) rfl (fun K hK => ?_)
      go_simp
      refine hK.out _ _ (fun h => absurd rfl h) ?_
      clear hK K
      try simp only [Act.put, List.setIfInBounds_toArray, List.set_cons_zero, List.set_cons_succ]
      refine wpAnyL_done (by kernel_rfl) ?_ _
      go_wp2_with fail
      obtain ⟨hra, hoa⟩ := grown_ends (i := 6) (u := .slice A7 (acc.length + 1) c7) (unhide VR6) (unhide VO6) (fun k hk => ((unhide VW6).lt k hk).1) (unhide VG7) hBm hne hRw
      have hma := (unhide VM7).set_ 6 (.slice A7 (acc.length + 1) c7)
      have hwa := own_only (unhide VW7) (Only.setCell (S := fun k => k = mm) (p := ⟨mm, 6, none⟩) (Only.refl _ x7) rfl (.slice A7 (acc.length + 1) c7)) (fun k hk e => by have := ((unhide VW7).lt k hk).1; omega)
      obtain ⟨x8, hx8⟩ : ∃ u, x7.setCell ⟨mm, 6, none⟩ (.slice A7 (acc.length + 1) c7) = u := ⟨_, rfl⟩
      rw [hx8] at hra hoa hma hwa ⊢
      have hl8 : (acc ++ [(⟨v1, v2, v3, v4, v5, v6⟩ : Vr)]).length = acc.length + 1 := by simp
      have hv8 : vrow (acc ++ [(⟨v1, v2, v3, v4, v5, v6⟩ : Vr)]) = vrow acc ++ vcs ⟨v1, v2, v3, v4, v5, v6⟩ := by simp [vrow]
      have hk8 := unhide HACC
      refine ⟨⟨k + 1, acc ++ [⟨v1, v2, v3, v4, v5, v6⟩], q6, A7, c7, by omega, by simp, by omega, hra, ?_, ?_, hoa, ?_⟩, by simp only [intOf]; omega⟩
      · rw [← hl8] at hma; exact hma
      · rw [← hl8, ← hv8] at hwa; exact hwa
      · rw [show N - (k + 1) = N1 by omega]; exact vers_more (unhide HROW) (unhide HVV)
    ·
      obtain ⟨w8, rfl⟩ : ∃ u, u = wr := ⟨_, rfl⟩
      have hkN : k = N := by omega
      subst hkN
      have hrow1 := unhide HROW
      rw [Nat.sub_self] at hrow1
      have hrow0 := row_end hrow1
      clear hrow1
      have HE8 := hide ((unhide HE7).trans (seq_ok hrow0))
      clear HROW hrow0 hlt hk
      go_wp2_with (first
        | (go_at_call 37; (with_reducible refine Calls.mono (unhide HF1 _ _ (unhide HR8)) ?_); go_must ((
           rintro _ u9 hout
           rcases hout with ⟨er, h, rfl, ho⟩ | ⟨n9, r9, h, rfl, hr, ho⟩
           · unfold gaveUp
             go_wp2_with fail
             exact ⟨rfl, .inl ⟨er, (unhide HE8).trans (seq_err (row_err (most_err h))), rfl, ⟨_, (unhide HM8).only ho (fun e => hne e), by rfl⟩, (unhide HO8).trans (only_R ho)⟩⟩
           have h90 := ((fix_law 1).bwd _ _ _ h).1.1
           have H9 := hide h
           have HR9 := hide hr
           have HM9 := hide ((unhide HM8).only ho (fun e => hne e))
           have HW9 := hide (own_only (unhide HW8) ho (fun k hk e => by have := ((unhide HW8).lt k hk).1; omega))
           have HO9 := hide ((unhide HO8).trans (only_R ho))
           clear h hr ho)))
        | (go_at_call 59; go_must ((
           by_cases hn9 : 32 < n9
           · refine Calls.mono (least_bad _ n9 32 6 _ (by omega) hn9 (by omega) (by omega)) ?_
             rintro _ ux ⟨rfl, rfl⟩
             unfold gaveUp
             go_wp2_with fail
             exact ⟨rfl, .inl ⟨6, (unhide HE8).trans (seq_err (row_err (most_long (unhide H9) hn9))), rfl, ⟨_, unhide HM9, by rfl⟩, unhide HO9⟩⟩
           refine Calls.mono (least_ok _ n9 32 6 _ h90 (by omega) (by omega)) ?_
           rintro _ ux ⟨rfl, rfl⟩
           have HVEC : Hid ((vecRow fixC).rd bb = rdL (fun _ : Unit => fixC 8) (fun _ => ()) n9.toNat () r9) := hide (row_rd (c := fun _ : Unit => fixC 8) (next := fun _ => ()) (s := ()) (most_go (unhide H9) h90 (by omega)))
           obtain ⟨M, rfl⟩ := Int.eq_ofNat_of_zero_le h90
           have hM : M ≤ 32 := by omega
           clear hn9))))
      have hw9 := (unhide HO9).size
      have hml9 := (unhide HM9).lt
      go_loopw [68] (fun i wv => ∃ (k : Nat) (a2 : List Int) (b2 : List UInt8) (vA : Option Addr) (vc : Nat), k ≤ M ∧ i = .int .i64 k ∧ a2.length = k ∧ RAt wv R B b2 ∧ Blk wv mm 28 (mcells (mkMs kd (n1, n2, n3, n5, n6, acc, a2, Wire.cmd0)) A c vA vc) ∧ wv.ownsRow u9.heap.size 22 1 (.slice vA a2.length vc) a2.length (a2.map (Value.int .u64)) ∧ Only (fun k => k = R ∨ k = mm) u9 wv ∧ (vecRow fixC).rd bb = mapE (fun l => a2 ++ l) (rdL (fun _ : Unit => fixC 8) (fun _ => ()) (M - k) () b2)) (fun i _ => M - (intOf i).toNat)
      case atStart => exact ⟨0, [], r9, none, 0, by omega, rfl, rfl, unhide HR9, unhide HM9, own_nil _ _ _ _, Only.refl _ _, (unhide HVEC).trans (mapE_id _).symm⟩
      case round =>
        obtain ⟨k, a2, b2, vA, vc, hk, rfl, hacc2, hr, hm, hown, ho, hrow⟩ := hrel
        clear HR9 HM9 HVEC
        have HR10 := hide hr; have HM10 := hide hm; have HX10 := hide hown; have HO10 := hide ho; have HVEC := hide hrow
        have HACC2 := hide hacc2
        clear hr hm hown ho hrow hacc2
        by_cases hlt : k < M
        ·
          obtain ⟨N1, hN1⟩ : ∃ x, M - k = x + 1 := ⟨M - k - 1, by omega⟩
          rw [hN1] at HVEC
          have hal : a2.length ≤ 32 := by rw [unhide HACC2]; omega
          have VR0 : Hid (RAt wr.drew R B b2) := HR10
          have VM0 : Hid (Blk wr.drew mm 28 (mcells (mkMs kd (n1, n2, n3, n5, n6, acc, a2, Wire.cmd0)) A c vA vc)) := HM10
          have VO0 : Hid (Only (fun k => k = R ∨ k = mm) u9 wr.drew) := hide (unhide HO10).drew
          have VW0 : Hid (wr.drew.ownsRow u9.heap.size 22 1 (.slice vA a2.length vc) a2.length (a2.map (Value.int .u64))) := HX10
          have hRw : R < u9.heap.size := by omega
          go_upto_region 8 with fail
          have f7d : wr.drew.cell? ⟨mm, 7, none⟩ = some (.slice vA a2.length vc) := (unhide VM0).cell 7
          refine wp_region_L 11 (fun u => u.cell? ⟨mm, 7, none⟩ = some (.slice vA a2.length vc)) (by kernel_rfl) ?_
          refine wpAnyL_take (i := 0) (v := ?_) [11] rfl (by kernel_rfl) (by kernel_rfl) (by kernel_rfl) (by kernel_rfl) (fun _ _ _ h => h) (Or.inl ⟨by kernel_rfl, ?_⟩) (by exact f7d) ?_
          rotate_left
          · intro u hSu
            go_simp
            try with_reducible rfl
          try simp only [Act.put, List.setIfInBounds_toArray, List.set_cons_zero, List.set_cons_succ]
          refine wpAnyL_take (i := 1) (v := ?_) [11] rfl (by kernel_rfl) (by kernel_rfl) (by kernel_rfl) (by kernel_rfl) (fun _ _ _ h => h) (Or.inl ⟨by kernel_rfl, ?_⟩) (by exact f7d) ?_
          rotate_left
          · intro u hSu
            go_simp
            try with_reducible rfl
          try simp only [Act.put, List.setIfInBounds_toArray, List.set_cons_zero, List.set_cons_succ]
          refine wpAnyL_take (i := 2) (v := ?_) [11] rfl (by kernel_rfl) (by kernel_rfl) (by kernel_rfl) (by kernel_rfl) (fun _ _ _ h => h) (Or.inl ⟨by kernel_rfl, ?_⟩) (by exact f7d) ?_
          rotate_left
          · intro u hSu
            go_simp
            try with_reducible rfl
          try simp only [Act.put, List.setIfInBounds_toArray, List.set_cons_zero, List.set_cons_succ]
          refine wpAnyL_take (i := 3) (v := ?_) [11] rfl (by kernel_rfl) (by kernel_rfl) (by kernel_rfl) (by kernel_rfl) (fun _ _ _ h => h) (Or.inl ⟨by kernel_rfl, ?_⟩) (by exact f7d) ?_
          rotate_left
          · intro u hSu
            go_simp
            try with_reducible rfl
          try simp only [Act.put, List.setIfInBounds_toArray, List.set_cons_zero, List.set_cons_succ]
          refine wpAnyL_take (i := 4) (v := ?_) [11] rfl (by kernel_rfl) (by kernel_rfl) (by kernel_rfl) (by kernel_rfl) (fun _ _ _ h => h) (Or.inl ⟨by kernel_rfl, ?_⟩) (by exact f7d) ?_
          rotate_left
          · intro u hSu
            go_simp
            try with_reducible rfl
          try simp only [Act.put, List.setIfInBounds_toArray, List.set_cons_zero, List.set_cons_succ]
          refine wpAnyL_take (i := 5) (v := ?_) [11] rfl (by kernel_rfl) (by kernel_rfl) (by kernel_rfl) (by kernel_rfl) (fun _ _ _ h => h) (Or.inl ⟨by kernel_rfl, ?_⟩) (by exact f7d) ?_
          rotate_left
          · intro u hSu
            go_simp
            try with_reducible rfl
          try simp only [Act.put, List.setIfInBounds_toArray, List.set_cons_zero, List.set_cons_succ]
          refine wpAnyL_one (i := 6) (by kernel_rfl) rfl (fun K hK => ?_)
          go_simp
          go_at_call 37
          (with_reducible refine Calls.mono (unhide HF8 _ _ (unhide VR0)) ?_)
          rintro _ x1 hout
          rcases hout with ⟨er, h, rfl, ho⟩ | ⟨v1, q1, h, rfl, hr, ho⟩
          · unfold gaveUp
            go_wp2_with fail
            exact ⟨rfl, .inl ⟨er, (unhide HE8).trans (seq_err ((unhide HVEC).trans (list_err (c := fun _ : Unit => fixC 8) (s := ()) h))), rfl, ⟨_, (unhide VM0).only ho (fun e => hne e), by rfl⟩, (unhide HO9).trans ((unhide VO0).trans (only_R ho))⟩⟩
          have HV1 := hide h
          have VR1 := hide hr
          have hk := (unhide VM0).only ho (fun e => hne e)
          have VM1 := hide hk
          have VO1 := hide ((unhide VO0).trans (only_R ho))
          have VW1 := hide (own_only (unhide VW0) ho (fun k hk e => by have := ((unhide VW0).lt k hk).1; omega))
          have f7 : x1.cell? ⟨mm, 7, none⟩ = some (.slice vA a2.length vc) := hk.cell 7
          have z7 := hk.frozen 7
          clear h hr ho hk
          refine hK.out _ _ (fun _ => f7) ?_
          clear hK K
          try simp only [Act.put, List.setIfInBounds_toArray, List.set_cons_zero, List.set_cons_succ]
          refine wpAnyL_one (i := 7) (by kernel_rfl) rfl (fun K hK => ?_)
          go_simp
          have f7a := ((unhide VM1).alloc (.cells #[.int .u64 v1] 22)).cell 7
          refine hK.out _ _ (fun _ => f7a) ?_
          clear hK K
          try simp only [Act.put, List.setIfInBounds_toArray, List.set_cons_zero, List.set_cons_succ]
          refine wpAnyL_one (i := 8) (by kernel_rfl) rfl (fun K hK => ?_)
          refine step_append_any _ rfl (.tmp 74) (.tmp 77) _ rfl u9.heap.size 22 j0 _ 1 8 Try.underlying24 hj hj0 hj1 hj2 (by rfl) (by omega) (.slice vA a2.length vc) a2.length _ (by rfl) ((unhide VW1).alloc _) _ (some ⟨x1.heap.size, 0, none⟩) 1 1 [.int .u64 v1] (by rfl) (rdV_new x1 #[.int .u64 v1] _ _) (by rfl) (by intro u hu; simp only [List.mem_singleton] at hu; subst hu; rfl) (by simp only [maxLen]; omega) (by omega) (by have := (unhide VO1).size; simp; omega) ?_
          intro A7 c7 x7 hown7 hg7 hat7 hbel7 hcc7
          have hb7 := ((unhide VM1).alloc (.cells #[.int .u64 v1] 22)).grown hg7 (fun e => by have := ((unhide VW1).lt mm e.symm).1; omega)
          have f7 : x7.cell? ⟨mm, 7, none⟩ = some (.slice vA a2.length vc) := hb7.cell 7
          have z7 := hb7.frozen 7
          have VM7 := hide hb7
          have VW7 := hide hown7
          have VG7 := hide hg7
          clear hown7 hg7 hat7 hbel7 hb7
          refine hK.out _ _ (fun _ => f7) ?_
          clear hK K
          try simp only [Act.put, List.setIfInBounds_toArray, List.set_cons_zero, List.set_cons_succ]
          refine wpAnyL_one (i := 9) (by kernel_rfl) rfl (fun K hK => ?_)
          go_simp
          refine hK.out _ _ (fun _ => f7) ?_
          clear hK K
          try simp only [Act.put, List.setIfInBounds_toArray, List.set_cons_zero, List.set_cons_succ]
          refine wpAnyL_one (i := 10) (by kernel_rfl) rfl (fun K hK => ?_)
          go_simp
          refine hK.out _ _ (fun _ => f7) ?_
          clear hK K
          try simp only [Act.put, List.setIfInBounds_toArray, List.set_cons_zero, List.set_cons_succ]
          refine wpAnyL_one (i := 11) (by kernel_rfl) rfl (fun K hK => ?_)
          go_simp
          refine hK.out _ _ (fun h => absurd rfl h) ?_
          clear hK K
          try simp only [Act.put, List.setIfInBounds_toArray, List.set_cons_zero, List.set_cons_succ]
          refine wpAnyL_done (by kernel_rfl) ?_ _
          go_wp2_with fail
          obtain ⟨hra, hoa⟩ := grown_ends (i := 7) (u := .slice A7 (a2.length + 1) c7) (unhide VR1) (unhide VO1) (fun k hk => ((unhide VW1).lt k hk).1) (unhide VG7) hBm hne hRw
          have hma := (unhide VM7).set_ 7 (.slice A7 (a2.length + 1) c7)
          have hwa := own_only (unhide VW7) (Only.setCell (S := fun k => k = mm) (p := ⟨mm, 7, none⟩) (Only.refl _ x7) rfl (.slice A7 (a2.length + 1) c7)) (fun k hk e => by have := ((unhide VW7).lt k hk).1; omega)
          obtain ⟨x8, hx8⟩ : ∃ u, x7.setCell ⟨mm, 7, none⟩ (.slice A7 (a2.length + 1) c7) = u := ⟨_, rfl⟩
          rw [hx8] at hra hoa hma hwa ⊢
          have hl8 : (a2 ++ [v1]).length = a2.length + 1 := by simp
          have hv8 : (a2 ++ [v1]).map (Value.int .u64) = a2.map (Value.int .u64) ++ [.int .u64 v1] := by simp
          have hk8 := unhide HACC2
          refine ⟨⟨k + 1, a2 ++ [v1], q1, A7, c7, by omega, by simp, by omega, hra, ?_, ?_, hoa, ?_⟩, by simp only [intOf]; omega⟩
          · rw [← hl8] at hma; exact hma
          · rw [← hl8, ← hv8] at hwa; exact hwa
          · rw [show M - (k + 1) = N1 by omega]; exact ints_more (unhide HVEC) (unhide HV1)
        ·
          obtain ⟨w10, rfl⟩ : ∃ u, u = wr := ⟨_, rfl⟩
          have hkM : k = M := by omega
          subst hkM
          have hrow1 := unhide HVEC
          rw [Nat.sub_self] at hrow1
          have hrow0 := row_end hrow1
          clear hrow1
          have HE10 := hide ((unhide HE8).trans (seq_ok hrow0))
          have HMO := hide (show MOwn w10 w.heap.size (mkMs kd (n1, n2, n3, n5, n6, acc, a2, Wire.cmd0)) A c vA vc from ⟨own_only (unhide HW9) (unhide HO10) (fun k hk e => by have := ((unhide HW9).lt k hk).1; omega), own_more (unhide HX10) (fun g hg => Nat.le_trans hw9 ((unhide HX10).lt g hg).1)⟩)
          have HO11 := hide ((unhide HO9).trans (unhide HO10))
          clear HVEC hrow0 hlt hk HO10
          go_upto_region 11 with fail
          obtain ⟨aa, haa⟩ : ∃ x, w10.heap.size = x := ⟨_, rfl⟩
          obtain ⟨u11, hu11⟩ : ∃ u, w10.alloc (Obj.cells #[.int .i64 0, .int .i64 0, .int .i64 0, .int .i64 0, .int .i64 0] 54) = u := ⟨_, rfl⟩
          have hra : R < aa := by rw [← haa]; exact (unhide HR10).lt
          have hma : mm < aa := by rw [← haa]; exact (unhide HM10).lt
          have hBaa : B ≤ aa := by omega
          have HA11 : Hid (Blk u11 aa 54 (cells5 [])) := hide (by rw [← haa, ← hu11]; exact Blk.new _ _ _)
          have HO12 : Hid (Only (fun k => k = R ∨ k = aa) w10 u11) := hide (by rw [← hu11]; exact (Only.refl _ _).alloc _)
          have HR11 : Hid (RAt u11 R B b2) := hide ((unhide HR10).only (S := fun _ => False) (by rw [← hu11]; exact (Only.refl _ _).alloc _) (fun _ h => h.elim))
          have HCM : Hid (eldC.rd b = mapE (fun p => (n1, n2, n3, n5, n6, acc, a2, cmOf p.1 p.2)) ((seqC (fiveC (most (fixC 1) 255 1)) fun _ => textC (fixC 1) 16).rd b2)) := hide ((unhide HE10).trans (by rw [cmd_five, mapE_comp]))
          rw [haa, hu11]
          clear hu11
          go_wp2_with fail
          go_loopw [82] (fun i wr => ∃ (k : Nat) (a3 : List Int) (b3 : List UInt8), k ≤ 5 ∧ i = .int .i64 k ∧ a3.length = k ∧ RAt wr R B b3 ∧ Blk wr aa 54 (cells5 a3) ∧ Only (fun k => k = R ∨ k = aa) w10 wr ∧ (fiveC (most (fixC 1) 255 1)).rd b2 = mapE (fun l => a3 ++ l) (rdL (fun _ : Unit => most (fixC 1) 255 1) (fun _ => ()) (5 - k) () b3)) (fun i _ => 5 - (intOf i).toNat)
          case atStart => exact ⟨0, [], b2, by omega, rfl, rfl, unhide HR11, unhide HA11, unhide HO12, five_rd _ _⟩
          case round =>
            obtain ⟨k, a3, b3, hk, rfl, hacc3, hr, ha, ho, hrow⟩ := hrel
            clear HR11 HA11 HO12
            have HR12 := hide hr; have HA12 := hide ha; have HO13 := hide ho; have HFIVE := hide hrow
            have HACC3 := hide hacc3
            clear hr ha ho hrow hacc3
            by_cases hlt : k < 5
            ·
              obtain ⟨N1, hN1⟩ : ∃ x, 5 - k = x + 1 := ⟨5 - k - 1, by omega⟩
              rw [hN1] at HFIVE
              go_wp2_with (first
                | (go_at_call 37; (with_reducible refine Calls.mono (unhide HF1 _ _ (unhide HR12)) ?_); go_must ((
                   rintro _ x1 hout
                   rcases hout with ⟨er, h, rfl, ho⟩ | ⟨v1, q1, h, rfl, hr, ho⟩
                   · unfold gaveUp
                     go_wp2_with fail
                     have hO := (unhide HO13).trans (ho.mono fun k _ hk => .inl hk)
                     exact ⟨rfl, .inl ⟨er, (unhide HCM).trans (seq_err ((unhide HFIVE).trans (list_err (c := fun _ : Unit => most (fixC 1) 255 1) (s := ()) (most_err h)))), rfl, ⟨_, (unhide HM10).only hO (fun e => by omega), by rfl⟩, (unhide HO11).trans (arr_only haa hO)⟩⟩
                   have hv10 : 0 ≤ v1 ∧ v1 < 256 := ((fix_law 1).bwd _ _ _ h).1
                   have e2 : IntKind.i64.wrap v1 = v1 := by simp [IntKind.wrap, IntKind.signed, IntKind.bits]; omega
                   have HV1 := hide (most_go (l := 255) (e := 1) h hv10.1 (by omega))
                   have VR1 := hide hr
                   have ha := (unhide HA12).only ho (fun e => by omega)
                   have VA1 := hide ha
                   have VO1 := hide ((unhide HO13).trans (ho.mono fun k _ hk => .inl hk))
                   have fa : x1.cell? ⟨aa, k, none⟩ = some (.int .i64 (a3.getD k 0)) := cells5_at ha hlt
                   have za := ha.frozen k
                   clear h hr ho ha))))
              obtain ⟨x2, hx2⟩ : ∃ u, x1.setCell ⟨aa, k, none⟩ (.int .i64 v1) = u := ⟨_, rfl⟩
              have hr2 := (unhide VR1).only ((Only.refl (fun k => k = aa) x1).setCell (p := ⟨aa, k, none⟩) rfl (.int .i64 v1)) (fun j hj => by subst hj; exact ⟨hBaa, by omega⟩)
              have ho2 := (unhide VO1).setCell (p := ⟨aa, k, none⟩) (.inr rfl) (.int .i64 v1)
              have ha2 := (unhide VA1).set_ k (.int .i64 v1)
              rw [cells5_set (unhide HACC3) hlt] at ha2
              rw [hx2] at hr2 ho2 ha2 ⊢
              refine ⟨⟨k + 1, a3 ++ [v1], q1, by omega, by simp, by rw [List.length_append, unhide HACC3]; rfl, hr2, ha2, ho2, ?_⟩, by simp only [intOf]; omega⟩
              rw [show 5 - (k + 1) = N1 by omega]
              exact ints_more (unhide HFIVE) (unhide HV1)
            ·
              obtain ⟨w12, rfl⟩ : ∃ u, u = wr := ⟨_, rfl⟩
              have hk5 : k = 5 := by omega
              subst hk5
              have hrow1 := unhide HFIVE
              rw [Nat.sub_self] at hrow1
              have hrow0 := row_end hrow1
              obtain ⟨c0, c1, c2, c3, c4, rfl⟩ := five_of (unhide HACC3)
              have HCN := hide ((unhide HCM).trans (seq_ok hrow0))
              clear hrow0 hrow1 hlt hk HFIVE HCM HE10 HACC3
              have hO := unhide HO13
              have HM13 := hide ((unhide HM10).only hO (fun e => by omega))
              have HMO13 := hide (show MOwn w12 w.heap.size (mkMs kd (n1, n2, n3, n5, n6, acc, a2, Wire.cmd0)) A c vA vc from ⟨own_only (unhide HMO).vers hO (fun k hk e => by have := (unhide HMO).vers.lt k hk; omega), own_only (unhide HMO).vec hO (fun k hk e => by have := (unhide HMO).vec.lt k hk; omega)⟩)
              have HO14 := hide ((unhide HO11).trans (arr_only (mm := mm) haa hO))
              have HMO13b : Hid (MOwn w12.drew w.heap.size (mkMs kd (n1, n2, n3, n5, n6, acc, a2, Wire.cmd0)) A c vA vc) := hide ⟨(unhide HMO13).vers, (unhide HMO13).vec⟩
              have HR12 : Hid (RAt w12.drew R B b3) := HR12
              have HA12 : Hid (Blk w12.drew aa 54 (cells5 [c0, c1, c2, c3, c4])) := HA12
              have HM13 : Hid (Blk w12.drew mm 28 (mcells (mkMs kd (n1, n2, n3, n5, n6, acc, a2, Wire.cmd0)) A c vA vc)) := HM13
              have HMO13 : Hid (MOwn w12.drew w.heap.size (mkMs kd (n1, n2, n3, n5, n6, acc, a2, Wire.cmd0)) A c vA vc) := HMO13b
              have HO14 := hide (unhide HO14).drew
              have g5 : At5 w12.drew aa c0 c1 c2 c3 c4 := ⟨cells5_at (unhide HA12) (k := 0) (by omega), cells5_at (unhide HA12) (k := 1) (by omega), cells5_at (unhide HA12) (k := 2) (by omega), cells5_at (unhide HA12) (k := 3) (by omega), cells5_at (unhide HA12) (k := 4) (by omega)⟩
              go_upto_region 16 with fail
              refine wp_region_L 16 (fun u => At5 u aa c0 c1 c2 c3 c4) (by kernel_rfl) ?_
              refine wpAnyL_take (i := 0) (v := ?_) [16] rfl (by kernel_rfl) (by kernel_rfl) (by kernel_rfl) (by kernel_rfl) (fun _ _ _ h => h) (Or.inl ⟨by kernel_rfl, ?_⟩) (by exact g5) ?_
              rotate_left
              · intro u hSu
                obtain ⟨s0, s1, s2, s3, s4⟩ := hSu
                go_simp
                try with_reducible rfl
              try simp only [Act.put, List.setIfInBounds_toArray, List.set_cons_zero, List.set_cons_succ]
              refine wpAnyL_take (i := 1) (v := ?_) [16] rfl (by kernel_rfl) (by kernel_rfl) (by kernel_rfl) (by kernel_rfl) (fun _ _ _ h => h) (Or.inl ⟨by kernel_rfl, ?_⟩) (by exact g5) ?_
              rotate_left
              · intro u hSu
                obtain ⟨s0, s1, s2, s3, s4⟩ := hSu
                go_simp
                try with_reducible rfl
              try simp only [Act.put, List.setIfInBounds_toArray, List.set_cons_zero, List.set_cons_succ]
              refine wpAnyL_take (i := 2) (v := ?_) [16] rfl (by kernel_rfl) (by kernel_rfl) (by kernel_rfl) (by kernel_rfl) (fun _ _ _ h => h) (Or.inl ⟨by kernel_rfl, ?_⟩) (by exact g5) ?_
              rotate_left
              · intro u hSu
                obtain ⟨s0, s1, s2, s3, s4⟩ := hSu
                go_simp
                try with_reducible rfl
              try simp only [Act.put, List.setIfInBounds_toArray, List.set_cons_zero, List.set_cons_succ]
              refine wpAnyL_take (i := 3) (v := ?_) [16] rfl (by kernel_rfl) (by kernel_rfl) (by kernel_rfl) (by kernel_rfl) (fun _ _ _ h => h) (Or.inl ⟨by kernel_rfl, ?_⟩) (by exact g5) ?_
              rotate_left
              · intro u hSu
                obtain ⟨s0, s1, s2, s3, s4⟩ := hSu
                go_simp
                try with_reducible rfl
              try simp only [Act.put, List.setIfInBounds_toArray, List.set_cons_zero, List.set_cons_succ]
              refine wpAnyL_take (i := 4) (v := ?_) [16] rfl (by kernel_rfl) (by kernel_rfl) (by kernel_rfl) (by kernel_rfl) (fun _ _ _ h => h) (Or.inl ⟨by kernel_rfl, ?_⟩) (by exact g5) ?_
              rotate_left
              · intro u hSu
                obtain ⟨s0, s1, s2, s3, s4⟩ := hSu
                go_simp
                try with_reducible rfl
              try simp only [Act.put, List.setIfInBounds_toArray, List.set_cons_zero, List.set_cons_succ]
              refine wpAnyL_take (i := 5) (v := ?_) [16] rfl (by kernel_rfl) (by kernel_rfl) (by kernel_rfl) (by kernel_rfl) (fun _ _ _ h => h) (Or.inl ⟨by kernel_rfl, ?_⟩) (by exact g5) ?_
              rotate_left
              · intro u hSu
                obtain ⟨s0, s1, s2, s3, s4⟩ := hSu
                go_simp
                try with_reducible rfl
              try simp only [Act.put, List.setIfInBounds_toArray, List.set_cons_zero, List.set_cons_succ]
              refine wpAnyL_take (i := 6) (v := ?_) [16] rfl (by kernel_rfl) (by kernel_rfl) (by kernel_rfl) (by kernel_rfl) (fun _ _ _ h => h) (Or.inl ⟨by kernel_rfl, ?_⟩) (by exact g5) ?_
              rotate_left
              · intro u hSu
                obtain ⟨s0, s1, s2, s3, s4⟩ := hSu
                go_simp
                try with_reducible rfl
              try simp only [Act.put, List.setIfInBounds_toArray, List.set_cons_zero, List.set_cons_succ]
              refine wpAnyL_take (i := 7) (v := ?_) [16] rfl (by kernel_rfl) (by kernel_rfl) (by kernel_rfl) (by kernel_rfl) (fun _ _ _ h => h) (Or.inl ⟨by kernel_rfl, ?_⟩) (by exact g5) ?_
              rotate_left
              · intro u hSu
                obtain ⟨s0, s1, s2, s3, s4⟩ := hSu
                go_simp
                try with_reducible rfl
              try simp only [Act.put, List.setIfInBounds_toArray, List.set_cons_zero, List.set_cons_succ]
              refine wpAnyL_take (i := 8) (v := ?_) [16] rfl (by kernel_rfl) (by kernel_rfl) (by kernel_rfl) (by kernel_rfl) (fun _ _ _ h => h) (Or.inl ⟨by kernel_rfl, ?_⟩) (by exact g5) ?_
              rotate_left
              · intro u hSu
                obtain ⟨s0, s1, s2, s3, s4⟩ := hSu
                go_simp
                try with_reducible rfl
              try simp only [Act.put, List.setIfInBounds_toArray, List.set_cons_zero, List.set_cons_succ]
              refine wpAnyL_take (i := 9) (v := ?_) [16] rfl (by kernel_rfl) (by kernel_rfl) (by kernel_rfl) (by kernel_rfl) (fun _ _ _ h => h) (Or.inl ⟨by kernel_rfl, ?_⟩) (by exact g5) ?_
              rotate_left
              · intro u hSu
                obtain ⟨s0, s1, s2, s3, s4⟩ := hSu
                go_simp
                try with_reducible rfl
              try simp only [Act.put, List.setIfInBounds_toArray, List.set_cons_zero, List.set_cons_succ]
              refine wpAnyL_take (i := 10) (v := ?_) [16] rfl (by kernel_rfl) (by kernel_rfl) (by kernel_rfl) (by kernel_rfl) (fun _ _ _ h => h) (Or.inl ⟨by kernel_rfl, ?_⟩) (by exact g5) ?_
              rotate_left
              · intro u hSu
                obtain ⟨s0, s1, s2, s3, s4⟩ := hSu
                go_simp
                try with_reducible rfl
              try simp only [Act.put, List.setIfInBounds_toArray, List.set_cons_zero, List.set_cons_succ]
              refine wpAnyL_take (i := 11) (v := ?_) [16] rfl (by kernel_rfl) (by kernel_rfl) (by kernel_rfl) (by kernel_rfl) (fun _ _ _ h => h) (Or.inl ⟨by kernel_rfl, ?_⟩) (by exact g5) ?_
              rotate_left
              · intro u hSu
                obtain ⟨s0, s1, s2, s3, s4⟩ := hSu
                go_simp
                try with_reducible rfl
              try simp only [Act.put, List.setIfInBounds_toArray, List.set_cons_zero, List.set_cons_succ]
              refine wpAnyL_one (i := 12) (by kernel_rfl) rfl (fun K hK => ?_)
              go_simp
              go_at_call 58
              (with_reducible refine Calls.mono (unhide HS16 _ _ (unhide HR12)) ?_)
              rintro _ x1 hout
              rcases hout with ⟨er, h, rfl, ho⟩ | ⟨v1, q1, h, rfl, hr, ho⟩
              · unfold gaveUp
                go_wp2_with fail
                exact ⟨rfl, .inl ⟨er, (unhide HCN).trans (end_err h), rfl, ⟨_, (unhide HM13).only ho (fun e => hne e), by rfl⟩, (unhide HO14).trans (only_R ho)⟩⟩
              have hE := (unhide HCN).trans (end_ok h)
              have hm15 := (unhide HM13).only ho (fun e => hne e)
              have HE15 := hide hE
              have HR15 := hide hr
              have HM15 := hide hm15
              have HO15 := hide ((unhide HO14).trans (only_R (mm := mm) ho))
              have HMO15 := hide (show MOwn x1 w.heap.size (mkMs kd (n1, n2, n3, n5, n6, acc, a2, Wire.cmd0)) A c vA vc from ⟨own_only (unhide HMO13).vers ho (fun k hk e => by have := (unhide HMO13).vers.lt k hk; omega), own_only (unhide HMO13).vec ho (fun k hk e => by have := (unhide HMO13).vec.lt k hk; omega)⟩)
              have g5 : At5 x1 aa c0 c1 c2 c3 c4 := by
                have ha := (unhide HA12).only ho (fun e => by omega)
                exact ⟨cells5_at ha (k := 0) (by omega), cells5_at ha (k := 1) (by omega), cells5_at ha (k := 2) (by omega), cells5_at ha (k := 3) (by omega), cells5_at ha (k := 4) (by omega)⟩
              clear h hr ho hE hm15
              refine hK.out _ _ (fun _ => g5) ?_
              clear hK K
              try simp only [Act.put, List.setIfInBounds_toArray, List.set_cons_zero, List.set_cons_succ]
              refine wpAnyL_one (i := 13) (by kernel_rfl) rfl (fun K hK => ?_)
              go_simp
              refine hK.out _ _ (fun _ => g5) ?_
              clear hK K
              try simp only [Act.put, List.setIfInBounds_toArray, List.set_cons_zero, List.set_cons_succ]
              refine wpAnyL_one (i := 14) (by kernel_rfl) rfl (fun K hK => ?_)
              go_simp
              refine hK.out _ _ (fun _ => g5) ?_
              clear hK K
              try simp only [Act.put, List.setIfInBounds_toArray, List.set_cons_zero, List.set_cons_succ]
              refine wpAnyL_one (i := 15) (by kernel_rfl) rfl (fun K hK => ?_)
              go_simp
              refine hK.out _ _ (fun _ => g5) ?_
              clear hK K
              try simp only [Act.put, List.setIfInBounds_toArray, List.set_cons_zero, List.set_cons_succ]
              refine wpAnyL_one (i := 16) (by kernel_rfl) rfl (fun K hK => ?_)
              refine if_wanted rfl (wp_store_mid 26 (.tmp 106) (.tmp 104) rfl mm 8 #[.int .i64 c0, .int .i64 c1, .int .i64 c2, .int .i64 c3, .int .i64 c4, .string v1] rfl rfl ((unhide HM15).there (by show 8 + 6 ≤ 14; omega)) (by kernel_rfl) (by simp [Value.oneCell']) ?_)
              refine hK.out _ _ (fun h => absurd rfl h) ?_
              clear hK K
              try simp only [Act.put, List.setIfInBounds_toArray, List.set_cons_zero, List.set_cons_succ]
              refine wpAnyL_done (by kernel_rfl) ?_ _
              go_wp2_with fail
              have hoS := Only.setCells (S := fun k => k = mm) (g := mm) rfl [.int .i64 c0, .int .i64 c1, .int .i64 c2, .int .i64 c3, .int .i64 c4, .string v1] 8 x1
              refine bodyPost_end (results_none rfl _ _ _) rfl (.inr ⟨_, q1, A, c, vA, vc, unhide HE15, rfl, (unhide HR15).only hoS (fun k hk => by subst hk; exact ⟨hBm, hne⟩), (unhide HM15).setCells _ 8, ?_, (unhide HO15).trans (hoS.mono fun k _ hk => .inr hk)⟩)
              exact ⟨own_only (unhide HMO15).vers hoS (fun k hk e => by have := (unhide HMO15).vers.lt k hk; omega), own_only (unhide HMO15).vec hoS (fun k hk e => by have := (unhide HMO15).vec.lt k hk; omega)⟩
end Go.Proofs.Ytkgacehnpdijaaa
