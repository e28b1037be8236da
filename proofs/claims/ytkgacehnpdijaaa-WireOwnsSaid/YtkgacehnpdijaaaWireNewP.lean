/- The program's newer body. -/
import Derived.Test.YtkgacehnpdijaaaWirePutT
import Derived.Deep.RegionHeld3
namespace Go.Proofs.Ytkgacehnpdijaaa
set_option linter.unusedVariables false
set_option linter.unusedSimpArgs false
open Go.RowKit Wire

set_option maxHeartbeats 8000000 in
set_option maxRecDepth 20000 in
theorem newer_any (m : Ms) (A : Option Addr) (c : Nat) (vA : Option Addr) (vc : Nat) (B : Nat) (w : World) (hok : Mq.Ok ⟨m, A, c, vA, vc⟩ w B) (hB : B ≤ w.heap.size) (hg : Wire.Good m) : Calls Try.prog 29 #[.agg (mcells m A c vA vc)] w (NewB w (newOf m)) := by
  have HM0 := hide ((Mem.start w).new (t := 28) (cs := mcells m A c vA vc) w.heap.size rfl)
  have HV := hide (hok.vers.more hB)
  have HVC := hide (hok.vec.more hB)
  have hr : Rng m := hok.rng
  obtain ⟨g, hgs⟩ : ∃ g, w.heap.size = g := ⟨_, rfl⟩
  have h0 := hg.k0; have h1 := hg.k1
  have hlo := hg.lo; have hhi := hg.hi; have hnv := hg.nv; have hnc := hg.nc
  rw [size_list'] at hlo hhi
  obtain ⟨w1, hw1⟩ : ∃ u, w.alloc (.cells (mcells m A c vA vc) 28) = u := ⟨_, rfl⟩
  rw [hw1] at HM0
  rw [hgs] at HM0
  have HGS := hide hgs
  have HGD := hide hg
  have HRG := hide hr
  clear hok hg hr hB
  obtain ⟨r, hrq, heq⟩ := eql_cmd m.cmd Wire.cmd0
  have heq2 : ∀ u : World, (Op.equalIn 10000 26 (.agg #[.int .i64 m.cmd.kind, .int .i64 m.cmd.dc, .int .i64 m.cmd.shard, .int .i64 m.cmd.node, .int .i64 m.cmd.mode, .string m.cmd.key]) (.agg #[.int .i64 0, .int .i64 0, .int .i64 0, .int .i64 0, .int .i64 0, .string ⟨#[]⟩])).run Try.prog u = .ok r u := heq
  have hnz : nzC m.cmd = !r := by
    unfold nzC
    cases r with
    | true => simp [hrq.1 rfl]
    | false => simp; intro h; have := hrq.2 h; cases this
  have HNZ := hide hnz
  clear heq hrq hnz
  show Calls _ _ #[.agg #[.int .i64 m.kind, .int .u64 m.id, .int .u64 m.n, .int .u64 m.ts, .string m.lo, .string m.hi, .slice A m.vers.length c, .slice vA m.vec.length vc, .int .i64 m.cmd.kind, .int .i64 m.cmd.dc, .int .i64 m.cmd.shard, .int .i64 m.cmd.node, .int .i64 m.cmd.mode, .string m.cmd.key]] _ _
  go_enter Try.func29, Try.ntmps29
  go_upto_region 1 with fail
  clear hgs hw1
  have HM1 : Hid (Mem w w1.drew [(g, 28, mcells m A c vA vc)]) := (unhide HM0).drew
  have fS := mAt (unhide HM1).blk0
  have hgl := (unhide HM1).blk0.lt
  go_region_held3 (fun u => u.cell? ⟨g, 0, none⟩ = some (.int .i64 m.kind) ∧ u.cell? ⟨g, 1, none⟩ = some (.int .u64 m.id) ∧ u.cell? ⟨g, 2, none⟩ = some (.int .u64 m.n) ∧ u.cell? ⟨g, 3, none⟩ = some (.int .u64 m.ts) ∧ u.cell? ⟨g, 4, none⟩ = some (.string m.lo) ∧ u.cell? ⟨g, 5, none⟩ = some (.string m.hi) ∧ u.cell? ⟨g, 6, none⟩ = some (.slice A m.vers.length c) ∧ u.cell? ⟨g, 7, none⟩ = some (.slice vA m.vec.length vc) ∧ u.cell? ⟨g, 8, none⟩ = some (.int .i64 m.cmd.kind) ∧ u.cell? ⟨g, 9, none⟩ = some (.int .i64 m.cmd.dc) ∧ u.cell? ⟨g, 10, none⟩ = some (.int .i64 m.cmd.shard) ∧ u.cell? ⟨g, 11, none⟩ = some (.int .i64 m.cmd.node) ∧ u.cell? ⟨g, 12, none⟩ = some (.int .i64 m.cmd.mode) ∧ u.cell? ⟨g, 13, none⟩ = some (.string m.cmd.key)) (first | assumption | exact fS | exact mAt ((unhide HM1).blk0.alloc _) | go_keep) (fail)
  obtain ⟨gg, hgg⟩ : ∃ x, w1.heap.size = x := ⟨_, rfl⟩
  have hggl : g < gg := by rw [← hgg]; exact hgl
  have HM2 : Hid (Mem w ((w1.alloc (.cells (hasA m) 75)).drew) [(gg, 75, hasA m), (g, 28, mcells m A c vA vc)]) := hide ((unhide HM0).new gg hgg).drew
  rw [show (m.id != 0) = nzI m.id from rfl, show (m.n != 0) = nzI m.n from rfl, show (m.ts != 0) = nzI m.ts from rfl, strB m.lo, strB m.hi, lenB m.vers, lenB m.vec, ← unhide HNZ, hgg]
  obtain ⟨w2, hw2⟩ : ∃ u, (w1.alloc (.cells (hasA m) 75)).drew = u := ⟨_, rfl⟩
  rw [hw2] at HM2
  rw [hw2]
  clear fS hw2 hgg hgl heq2 HNZ
  go_wp2_with (refine wpList_load_blk rfl 75 (.tmp 3) rfl (gg) rfl 75 _ _ ((unhide HM2).blk0) Try.underlying75 rfl (by kernel_rfl) ?_)
  obtain ⟨i0, i1, i2, i3, i4, i5, i6, i7⟩ := idx8 (nzI m.id) (nzI m.n) (nzI m.ts) (nzS m.lo) (nzS m.hi) (nzL m.vers) (nzL m.vec) (nzC m.cmd) w2
  go_loopw [4, 48] (fun mk i wr => ∃ k : Nat, k ≤ 8 ∧ i = .int .i64 k ∧ mk = .int .u8 (newM m k) ∧ w2 = wr) (fun _ i _ => 8 - (intOf i).toNat)
  case atStart => exact ⟨0, by omega, rfl, rfl, rfl⟩
  case round =>
    obtain ⟨k, hk, rfl, rfl, rfl⟩ := hrel
    have hml := newM_lt m k hk
    by_cases h8 : k = 8
    ·
      -- [rest
      subst h8
      rw [show ((8 : Nat) : Int) = 8 from rfl]
      simp only [Int.reducePow] at hml
      obtain ⟨f0, f1, f2, f3, f4, f5, f6, f7, f8, f9, f10, f11, f12, f13⟩ := mAt (unhide HM2).blk1
      have hgl := (unhide HM2).blk1.lt
      have hsz2 := (unhide HM2).blk0.lt
      have HX := hide (bv_of (n := m.kind) (by omega) (by omega))
      have HY := hide (bv_of (n := newM m 8) hml.1 (by omega))
      have e8 := wrap8 (n := m.kind) (by omega) (by omega)
      obtain ⟨M8, hM8⟩ : ∃ M, newM m 8 = M := ⟨_, rfl⟩
      rw [hM8] at HY
      rw [hM8]
      have HM8 := hide hM8
      clear hM8 hml i0 i1 i2 i3 i4 i5 i6 i7
      go_wp2_with fail
      obtain ⟨w3, hw3⟩ : ∃ u, w2.alloc (.cells #[.int .u8 m.kind, .int .u8 M8] 5) = u := ⟨_, rfl⟩
      have HB3 : Hid (BldT w w3 g gg (mcells m A c vA vc) 75 (hasA m) (newHead m ++ newT m 0) (.slice (some ⟨w2.heap.size, 0, none⟩) 2 2)) := hide (by
        rw [← hw3]
        have ho := own_new w2 (g + 1) #[.int .u8 m.kind, .int .u8 M8] 5 2 ((newHead m).map Bv) hgl (by simp [maxLen]) rfl (by unfold newHead; rw [unhide HM8, ← unhide HX, ← unhide HY]; rfl)
        refine ⟨⟨⟨_, 2, 2, rfl, by simp [newHead, newT], by simpa [newT] using ho⟩, ?_⟩, (unhide HM2).blk0.alloc _, fun A n c e k hk => ?_⟩
        · exact (unhide HM2).tail.other _
        · injection e with e1 e2 e3
          subst e1 e2 e3
          have hk : some w2.heap.size = some k := hk
          injection hk with hk
          omega)
      rw [hw3]
      clear hw3 f0 f1 f2 f3 f4 f5 f6 f7 f8 f9 f10 f11 f12 f13 hgl
      obtain ⟨j0, j1, j2⟩ : True ∧ True ∧ True := ⟨trivial, trivial, trivial⟩
      go_loopw [7, 72] (fun b i wr => ∃ k : Nat, k ≤ 3 ∧ i = .int .i64 k ∧ BldT w wr g gg (mcells m A c vA vc) 75 (hasA m) (newHead m ++ newT m k) b) (fun _ i _ => 3 - (intOf i).toNat)
      case atStart => exact ⟨0, by omega, rfl, unhide HB3⟩
      case round =>
        obtain ⟨k, hk, rfl, hbd⟩ := hrel
        clear HB3 hsz2
        have HB0 := hide hbd
        clear hbd
        obtain ⟨A0, n0, c0, rfl, hn0, _⟩ := (unhide HB0).bld.row
        have HN0 := hide hn0
        clear hn0
        by_cases h3 : k = 3
        · subst h3
          rw [show ((3 : Nat) : Int) = 3 from rfl]
          -- [r3
          obtain ⟨f0, f1, f2, f3, f4, f5, f6, f7, f8, f9, f10, f11, f12, f13⟩ := mAt (unhide HB0).bld.mem.blk0
          have hgl := (unhide HB0).bld.mem.blk0.lt
          have HB4 : Hid (BldT w wr g gg (mcells m A c vA vc) 75 (hasA m) (newHead m ++ newT m (3 + 0)) (.slice A0 n0 c0)) := HB0
          go_wp2_with fail
          clear f0 f1 f2 f3 f4 f5 f6 f7 f8 f9 f10 f11 f12 f13 hgl
          go_loopw [7, 90] (fun b i wx => ∃ k : Nat, k ≤ 2 ∧ i = .int .i64 k ∧ BldT w wx g gg (mcells m A c vA vc) 75 (hasA m) (newHead m ++ newT m (3 + k)) b) (fun _ i _ => 2 - (intOf i).toNat)
          case atStart => exact ⟨0, by omega, rfl, unhide HB4⟩
          case round =>
            obtain ⟨k, hk, rfl, hbd⟩ := hrel
            clear HB4 HB0 HN0
            have HB0 := hide hbd
            clear hbd
            obtain ⟨A0, n0, c0, rfl, hn0, _⟩ := (unhide HB0).bld.row
            have HN0 := hide hn0
            clear hn0
            by_cases h2 : k = 2
            · subst h2
              rw [show ((2 : Nat) : Int) = 2 from rfl]
              replace HB0 : Hid (BldT w wr g gg (mcells m A c vA vc) 75 (hasA m) (newHead m ++ newT m 5) (.slice A0 n0 c0)) := HB0
              -- [r5
              obtain ⟨f0, f1, f2, f3, f4, f5, f6, f7, f8, f9, f10, f11, f12, f13⟩ := mAt (unhide HB0).bld.mem.blk0
              have hgl := (unhide HB0).bld.mem.blk0.lt
              have hggs := (unhide HB0).blk.lt
              have e2 := wrap64 (n := (m.vers.length : Int)) (by omega) (by omega)
              obtain ⟨tt, htt⟩ : ∃ t, nzL m.vers = t := ⟨_, rfl⟩
              have hc : wr.cell? ⟨gg, 5, none⟩ = some (.bool tt) := by rw [← htt]; exact (unhide HB0).blk.cell 5
              have HTT := hide htt
              clear htt
              go_upto_if 105 with fail
              go_cut [7] (fun b u => BldT w u g gg (mcells m A c vA vc) 75 (hasA m) (newHead m ++ newT m 6) b)
              case first =>
                -- [q5
                clear hc
                have HLN := hide (head_len (unhide HGD) (unhide HRG) 5 (by omega))
                cases tt
                rotate_left
                · have HZ := HTT
                  have HF1 : Hid (∀ u, Calls Try.prog 49 #[.int .u64 (m.vers.length : Int)] u (NewB u (Num.uv m.vers.length))) := fun u => wuvar_any (m.vers.length : Int) u (by omega) (by omega)
                  have HLL : Hid ((Num.uv m.vers.length).length ≤ 100) := hide (Nat.le_trans (Num.uv_len64 (by omega)) (by omega))
                  go_wp2_with (first
                    | (go_at_call 49; (with_reducible refine Calls.mono (unhide HF1 _) ?_); go_must ((
                       rintro _ u1 ⟨A1, n1, c1, rfl, hn, ho, hb, hc⟩
                       have HPUT := hide (put1_bldT (Nat.le_of_eq (unhide HGS)) (unhide HB0) hn ho hb (by have := unhide HLL; have := unhide HLN; omega))
                       clear hn ho hb hc)))
                    | (go_at_call 45; go_must ((
                       refine Calls.mono (unhide HPUT) ?_
                       rintro _ w9 ⟨b9, rfl, hbld⟩
                       have f6' : w9.cell? ⟨g, 6, none⟩ = some (.slice A m.vers.length c) := hbld.bld.mem.blk0.cell 6
                       have hgl9 := hbld.bld.mem.blk0.lt
                       have HB9 := hide hbld
                       clear hbld))))
                  have HS1 : Hid (BldT w w9 g gg (mcells m A c vA vc) 75 (hasA m) (newHead m ++ (newT m 5 ++ (Num.uv m.vers.length ++ encN 0 (m.vers.take 0)))) b9) := hide ((unhide HB9).as (by simp [encN]))
                  clear f0 f1 f2 f3 f4 f5 f6 f7 f8 f9 f10 f11 f12 f13 hgl hggs f6' hgl9
                  go_loopw [7, 12, 117] (fun b last i wr => ∃ k : Nat, k ≤ m.vers.length ∧ i = .int .i64 k ∧ last = .int .u64 (lastOr 0 (m.vers.take k)) ∧ BldT w wr g gg (mcells m A c vA vc) 75 (hasA m) (newHead m ++ (newT m 5 ++ (Num.uv m.vers.length ++ encN 0 (m.vers.take k)))) b) (fun _ _ i _ => m.vers.length - (intOf i).toNat)
                  case atStart => exact ⟨0, by omega, rfl, rfl, unhide HS1⟩
                  case round =>
                    obtain ⟨k, hk, rfl, rfl, hbd⟩ := hrel
                    clear HS1 HB9 HB0 HPUT
                    have HB0 := hide hbd
                    clear hbd
                    obtain ⟨A0, n0, c0, rfl, hn0, _⟩ := (unhide HB0).bld.row
                    have HN0 := hide hn0
                    clear hn0
                    by_cases hlt : k < m.vers.length
                    · obtain ⟨v, hv⟩ : ∃ v, m.vers[k]? = some v := ⟨m.vers[k], List.getElem?_eq_getElem hlt⟩
                      obtain ⟨ad, hA, _, a0, a1, a2, a3, a4, a5⟩ := verAt ((unhide HV).below (unhide HB0).bld.mem.below) hv
                      subst hA
                      have gv : GoodV v := (unhide HGD).vers v (List.mem_of_getElem? hv)
                      have hkey := gv.key; have hval := gv.val
                      rw [size_list'] at hkey hval
                      have d0 := gv.d0; have d1 := gv.d1; have t0 := gv.t0; have t1 := gv.t1
                      obtain ⟨L0, hL0⟩ : ∃ L0, lastOr 0 (m.vers.take k) = L0 := ⟨_, rfl⟩
                      obtain ⟨D, hD⟩ : ∃ D, (v.ts - L0) % 18446744073709551616 = D := ⟨_, rfl⟩
                      have hD0 : 0 ≤ D ∧ D < 18446744073709551616 := by omega
                      have ed : IntKind.u64.wrap (v.ts - L0) = D := by rw [← hD]; simp [IntKind.wrap, IntKind.signed, IntKind.bits]
                      obtain ⟨gn, hgn⟩ : ∃ n : Int, (if v.gone then (1 : Int) else 0) = n := ⟨_, rfl⟩
                      have hgn0 : 0 ≤ gn ∧ gn ≤ 1 := by subst hgn; cases v.gone <;> decide
                      have hgt : (if v.gone then 1 else 0 : Nat) = gn.toNat := by subst hgn; cases v.gone <;> rfl
                      have e5 := wrap8 (n := gn) hgn0.1 (by omega)
                      have HBK := hide (bv_of (n := gn) hgn0.1 (by omega))
                      have HBT : Hid (∀ u, Calls Try.prog 48 #[.bool v.gone] u fun e w' => e = .returned (.int .u64 gn) ∧ u = w') := fun u => by rw [← hgn]; exact bitv_any v.gone u
                      have HF1 : Hid (∀ u, Calls Try.prog 50 #[.string v.key] u (NewB u (txU v.key))) := fun u => wtext_any v.key u (by omega)
                      have HF2 : Hid (∀ u, Calls Try.prog 50 #[.string v.val] u (NewB u (txU v.val))) := fun u => wtext_any v.val u (by omega)
                      have HF4 : Hid (∀ u, Calls Try.prog 49 #[.int .u64 D] u (NewB u (Num.uv D.toNat))) := fun u => wuvar_any D u hD0.1 hD0.2
                      have HF5 : Hid (∀ u, Calls Try.prog 49 #[.int .u64 v.dc] u (NewB u (Num.uv v.dc.toNat))) := fun u => wuvar_any v.dc u (by omega) (by omega)
                      have HF6 : Hid (∀ u, Calls Try.prog 49 #[.int .u64 v.tx] u (NewB u (Num.uv v.tx.toNat))) := fun u => wuvar_any v.tx u (by omega) (by omega)
                      have e3 := wrap64 (n := v.dc) (by omega) (by omega)
                      have e4 := wrap64 (n := v.tx) (by omega) (by omega)
                      have HVN : Hid (verN L0 v = txU v.key ++ (txU v.val ++ ([UInt8.ofNat gn.toNat] ++ (Num.uv D.toNat ++ (Num.uv v.dc.toNat ++ Num.uv v.tx.toNat))))) := hide (by show _ = _; rw [← hD, ← fx1, ← hgt]; rfl)
                      have HLV := hide (verN_len gv L0)
                      have HLE := hide (Nat.le_trans (encN_len (m.vers.take k) 0 fun x hx => (unhide HGD).vers x (List.mem_of_mem_take hx)) (Nat.mul_le_mul_right 200 (show (m.vers.take k).length ≤ 4096 by rw [List.length_take]; omega)))
                      obtain ⟨hs1, hs2⟩ := encN_succ hv
                      rw [hL0] at hs1
                      rw [hL0]
                      have HSU := hide hs1
                      have HSL := hide hs2
                      obtain ⟨PRE, hPRE⟩ : ∃ P, newHead m ++ (newT m 5 ++ (Num.uv m.vers.length ++ encN 0 (m.vers.take k))) = P := ⟨_, rfl⟩
                      rw [hPRE] at HB0 HN0
                      have HPL : Hid (PRE.length ≤ 1740000) := hide (by rw [← hPRE]; have h1 := unhide HLN; have h2 := unhide HLL; have h3 := unhide HLE; simp only [List.length_append] at h1 ⊢; omega)
                      have HPRE := hide hPRE
                      obtain ⟨h, hh⟩ : ∃ h, wr.heap.size = h := ⟨_, rfl⟩
                      obtain ⟨w4, hw4⟩ : ∃ u, wr.alloc (.cells (vc6 v) 49) = u := ⟨_, rfl⟩
                      have HM4 : Hid (BldT w w4.drew g gg (mcells m (some ad) c vA vc) 75 (hasA m) PRE (.slice A0 n0 c0)) := hide (by rw [← hw4]; exact ((unhide HB0).go (below_made wr _)).go ((Below.refl _ _).drew))
                      have HBLV : Hid (Blk w4.drew h 49 (vc6 v)) := hide (by rw [← hw4, ← hh]; exact Blk.new _ _ _)
                      have HLT : Hid (∀ k, (Value.slice A0 n0 c0).ownBlock = some k → k < h) := hide (by rw [← hh]; exact (unhide HB0).bld.lt)
                      have HLT4 := hide ((unhide HM4).bld.lt)
                      clear hv gv hD hD0 hL0 hs1 hs2 hPRE hgn hgn0 hgt
                      go_upto_region 27 with fail
                      clear hh hw4 a0 a1 a2 a3 a4 a5
                      have HG : Hid (Below w4.drew.heap.size w4.drew w4.drew) := Below.refl _ _
                      have fS : VS v h w4.drew := vS (unhide HBLV)
                      go_region_held3 (fun u => u.cell? ⟨h, 0, none⟩ = some (.string v.key) ∧ u.cell? ⟨h, 1, none⟩ = some (.string v.val) ∧ u.cell? ⟨h, 2, none⟩ = some (.bool v.gone) ∧ u.cell? ⟨h, 3, none⟩ = some (.int .u64 v.ts) ∧ u.cell? ⟨h, 4, none⟩ = some (.int .i64 v.dc) ∧ u.cell? ⟨h, 5, none⟩ = some (.int .i64 v.tx)) (first | assumption | exact fS | exact fS1 | exact fS2 | exact fS4 | exact fS5 | exact fS6 | exact fS9 | exact vS (((unhide HBLV).below (unhide HG) (unhide HBLV).lt).alloc _) | go_keep)
                        (first
                        | (go_at_call 48; (with_reducible refine Calls.mono (unhide HBT _) ?_); rintro _ ux ⟨rfl, rfl⟩)
                        | (go_at_call 50; (with_reducible refine Calls.mono (unhide HF1 _) ?_); go_must ((
                           rintro _ u1 ⟨A1, n1, c1, rfl, hn, ho, hb, hc⟩
                           have HP1 := hide ((ptr_own hn ho).lo' (by first | exact (unhide HG).size | (rw [szA]; exact Nat.le_succ_of_le (unhide HG).size)))
                           (try (with_reducible first | replace HPK := hide ((unhide HPK).go hb) | replace HPK := hide ((unhide HPK).goA hb) | have HPK := hide ((ptr_newA (unhide HBK) hb).lo' (unhide HG).size)))
                           (with_reducible first | replace HG := hide (gT (unhide HG) hb) | replace HG := hide (gTA (unhide HG) hb))
                           (try (with_reducible first | replace HP1 := hide ((unhide HP1).go hb) | replace HP1 := hide ((unhide HP1).goA hb)))
                           (try (with_reducible first | replace HP2 := hide ((unhide HP2).go hb) | replace HP2 := hide ((unhide HP2).goA hb)))
                           (try (with_reducible first | replace HP4 := hide ((unhide HP4).go hb) | replace HP4 := hide ((unhide HP4).goA hb)))
                           (try (with_reducible first | replace HP5 := hide ((unhide HP5).go hb) | replace HP5 := hide ((unhide HP5).goA hb)))
                           have hk := (unhide HBLV).below (unhide HG) (unhide HBLV).lt
                           have fS1 := vS hk
                           clear hn ho hb hc hk)))
                        | (go_at_call 50; (with_reducible refine Calls.mono (unhide HF2 _) ?_); go_must ((
                           rintro _ u2 ⟨A2, n2, c2, rfl, hn, ho, hb, hc⟩
                           have HP2 := hide ((ptr_own hn ho).lo' (by first | exact (unhide HG).size | (rw [szA]; exact Nat.le_succ_of_le (unhide HG).size)))
                           (try (with_reducible first | replace HPK := hide ((unhide HPK).go hb) | replace HPK := hide ((unhide HPK).goA hb) | have HPK := hide ((ptr_newA (unhide HBK) hb).lo' (unhide HG).size)))
                           (with_reducible first | replace HG := hide (gT (unhide HG) hb) | replace HG := hide (gTA (unhide HG) hb))
                           (try (with_reducible first | replace HP1 := hide ((unhide HP1).go hb) | replace HP1 := hide ((unhide HP1).goA hb)))
                           (try (with_reducible first | replace HP2 := hide ((unhide HP2).go hb) | replace HP2 := hide ((unhide HP2).goA hb)))
                           (try (with_reducible first | replace HP4 := hide ((unhide HP4).go hb) | replace HP4 := hide ((unhide HP4).goA hb)))
                           (try (with_reducible first | replace HP5 := hide ((unhide HP5).go hb) | replace HP5 := hide ((unhide HP5).goA hb)))
                           have hk := (unhide HBLV).below (unhide HG) (unhide HBLV).lt
                           have fS2 := vS hk
                           clear hn ho hb hc hk)))
                        | (go_at_call 49; (with_reducible refine Calls.mono (unhide HF4 _) ?_); go_must ((
                           rintro _ u4 ⟨A4, n4, c4, rfl, hn, ho, hb, hc⟩
                           have HP4 := hide ((ptr_own hn ho).lo' (by first | exact (unhide HG).size | (rw [szA]; exact Nat.le_succ_of_le (unhide HG).size)))
                           (try (with_reducible first | replace HPK := hide ((unhide HPK).go hb) | replace HPK := hide ((unhide HPK).goA hb) | have HPK := hide ((ptr_newA (unhide HBK) hb).lo' (unhide HG).size)))
                           (with_reducible first | replace HG := hide (gT (unhide HG) hb) | replace HG := hide (gTA (unhide HG) hb))
                           (try (with_reducible first | replace HP1 := hide ((unhide HP1).go hb) | replace HP1 := hide ((unhide HP1).goA hb)))
                           (try (with_reducible first | replace HP2 := hide ((unhide HP2).go hb) | replace HP2 := hide ((unhide HP2).goA hb)))
                           (try (with_reducible first | replace HP4 := hide ((unhide HP4).go hb) | replace HP4 := hide ((unhide HP4).goA hb)))
                           (try (with_reducible first | replace HP5 := hide ((unhide HP5).go hb) | replace HP5 := hide ((unhide HP5).goA hb)))
                           have hk := (unhide HBLV).below (unhide HG) (unhide HBLV).lt
                           have fS4 := vS hk
                           clear hn ho hb hc hk)))
                        | (go_at_call 49; (with_reducible refine Calls.mono (unhide HF5 _) ?_); go_must ((
                           rintro _ u5 ⟨A5, n5, c5, rfl, hn, ho, hb, hc⟩
                           have HP5 := hide ((ptr_own hn ho).lo' (by first | exact (unhide HG).size | (rw [szA]; exact Nat.le_succ_of_le (unhide HG).size)))
                           (try (with_reducible first | replace HPK := hide ((unhide HPK).go hb) | replace HPK := hide ((unhide HPK).goA hb) | have HPK := hide ((ptr_newA (unhide HBK) hb).lo' (unhide HG).size)))
                           (with_reducible first | replace HG := hide (gT (unhide HG) hb) | replace HG := hide (gTA (unhide HG) hb))
                           (try (with_reducible first | replace HP1 := hide ((unhide HP1).go hb) | replace HP1 := hide ((unhide HP1).goA hb)))
                           (try (with_reducible first | replace HP2 := hide ((unhide HP2).go hb) | replace HP2 := hide ((unhide HP2).goA hb)))
                           (try (with_reducible first | replace HP4 := hide ((unhide HP4).go hb) | replace HP4 := hide ((unhide HP4).goA hb)))
                           (try (with_reducible first | replace HP5 := hide ((unhide HP5).go hb) | replace HP5 := hide ((unhide HP5).goA hb)))
                           have hk := (unhide HBLV).below (unhide HG) (unhide HBLV).lt
                           have fS5 := vS hk
                           clear hn ho hb hc hk)))
                        | (go_at_call 49; (with_reducible refine Calls.mono (unhide HF6 _) ?_); go_must ((
                           rintro _ u6 ⟨A6, n6, c6, rfl, hn, ho, hb, hc⟩
                           have HP6 := hide ((ptr_own hn ho).lo' (by first | exact (unhide HG).size | (rw [szA]; exact Nat.le_succ_of_le (unhide HG).size)))
                           (try (with_reducible first | replace HPK := hide ((unhide HPK).go hb) | replace HPK := hide ((unhide HPK).goA hb) | have HPK := hide ((ptr_newA (unhide HBK) hb).lo' (unhide HG).size)))
                           (with_reducible first | replace HG := hide (gT (unhide HG) hb) | replace HG := hide (gTA (unhide HG) hb))
                           (try (with_reducible first | replace HP1 := hide ((unhide HP1).go hb) | replace HP1 := hide ((unhide HP1).goA hb)))
                           (try (with_reducible first | replace HP2 := hide ((unhide HP2).go hb) | replace HP2 := hide ((unhide HP2).goA hb)))
                           (try (with_reducible first | replace HP4 := hide ((unhide HP4).go hb) | replace HP4 := hide ((unhide HP4).goA hb)))
                           (try (with_reducible first | replace HP5 := hide ((unhide HP5).go hb) | replace HP5 := hide ((unhide HP5).goA hb)))
                           have hk := (unhide HBLV).below (unhide HG) (unhide HBLV).lt
                           have fS6 := vS hk
                           clear hn ho hb hc hk)))
                        | (go_at_call 45; go_must ((
                           have hbx := (unhide HM4).go (unhide HG)
                           first
                             | (have hpk := unhide HPK
                                with_reducible refine Calls.mono (vput6 (Nat.le_of_eq (unhide HGS)) hbx (unhide HLT4) (unhide HP1) (unhide HP2) hpk (unhide HP4) (unhide HP5) (unhide HP6) (by have h1 := unhide HLV; have h2 := unhide HPL; have h4 := unhide HVN; rw [h4] at h1; omega) rfl) ?_
                                clear hpk)
                             | (with_reducible refine Calls.mono (vput6 (Nat.le_of_eq (unhide HGS)) (hbx.go (below_made _ _)) (unhide HLT4) ((unhide HP1).go (below_made _ _)) ((unhide HP2).go (below_made _ _)) ((ptr_new _ (unhide HBK) _).lo' (unhide HG).size) ((unhide HP4).go (below_made _ _)) ((unhide HP5).go (below_made _ _)) ((unhide HP6).go (below_made _ _)) (by have h1 := unhide HLV; have h2 := unhide HPL; have h4 := unhide HVN; rw [h4] at h1; omega) (szA _ _)) ?_)
                           rintro _ w9 ⟨b9, rfl, hbld, hkeep⟩
                           have hk9 := hkeep h _ _ (by first | exact (unhide HBLV).below (unhide HG) (unhide HBLV).lt | exact ((unhide HBLV).below (unhide HG) (unhide HBLV).lt).alloc _) (fun k hk => by have := unhide HLT k hk; omega)
                           have fS9 : VS v h w9 := vS hk9
                           have hgh := hk9.lt
                           have HB9 := hide hbld
                           clear hbld hkeep hbx hk9)))
                        )
                      all_goals
                        obtain ⟨s0, s1, s2, s3, s4, s5⟩ := fS9
                        go_wp2_with fail
                        have HBF : BldT w w9 g gg (mcells m (some ad) c vA vc) 75 (hasA m) (newHead m ++ (newT m 5 ++ (Num.uv m.vers.length ++ encN 0 (m.vers.take (k + 1))))) b9 := (unhide HB9).as (by rw [unhide HSU, unhide HVN, ← unhide HPRE]; simp only [List.append_assoc])
                        go_roundw
                        case rel => exact ⟨k + 1, by omega, by go_num, by rw [unhide HSL], HBF⟩
                        case measure => simp [intOf]; omega
                    · obtain rfl : k = m.vers.length := by omega
                      go_wp2_with fail
                      go_meet
                      case rel => exact (unhide HB0).as (by show newHead m ++ (newT m 5 ++ _) = newHead m ++ (newT m 5 ++ nV m.vers); unfold nV; rw [unhide HZ, List.take_length]; rfl)
                · have HZ := HTT
                  go_wp2_with fail
                  go_meet
                  case rel => exact (unhide HB0).as (by show newHead m ++ newT m 5 = newHead m ++ (newT m 5 ++ nV m.vers); unfold nV; rw [unhide HZ]; simp)
                -- q5]
              case rest =>
                clear HB0 f0 f1 f2 f3 f4 f5 f6 f7 f8 f9 f10 f11 f12 f13 hgl hggs hc HN0 HTT
                have HB0 := hide hcut
                clear hcut
                obtain ⟨A0, n0, c0, rfl, hn0, _⟩ := (unhide HB0).bld.row
                have HN0 := hide hn0
                clear hn0
                obtain ⟨f0, f1, f2, f3, f4, f5, f6, f7, f8, f9, f10, f11, f12, f13⟩ := mAt (unhide HB0).bld.mem.blk0
                have hgl := (unhide HB0).bld.mem.blk0.lt
                have hggs := (unhide HB0).blk.lt
                have e2 := wrap64 (n := (m.vec.length : Int)) (by omega) (by omega)
                obtain ⟨tt, htt⟩ : ∃ t, nzL m.vec = t := ⟨_, rfl⟩
                have hc : wc.cell? ⟨gg, 6, none⟩ = some (.bool tt) := by rw [← htt]; exact (unhide HB0).blk.cell 6
                have HTT := hide htt
                clear htt
                go_upto_if 152 with fail
                go_cut [7] (fun b u => BldT w u g gg (mcells m A c vA vc) 75 (hasA m) (newHead m ++ newT m 7) b)
                case first =>
                  as_aux_lemma =>
                  -- [q6
                  clear hc
                  have HLN := hide (head_len (unhide HGD) (unhide HRG) 6 (by omega))
                  cases tt
                  rotate_left
                  · have HZ := HTT
                    have HF1 : Hid (∀ u, Calls Try.prog 49 #[.int .u64 (m.vec.length : Int)] u (NewB u (Num.uv m.vec.length))) := fun u => wuvar_any (m.vec.length : Int) u (by omega) (by omega)
                    have HLL : Hid ((Num.uv m.vec.length).length ≤ 100) := hide (Nat.le_trans (Num.uv_len64 (by omega)) (by omega))
                    go_wp2_with (first
                      | (go_at_call 49; (with_reducible refine Calls.mono (unhide HF1 _) ?_); go_must ((
                         rintro _ u1 ⟨A1, n1, c1, rfl, hn, ho, hb, hc⟩
                         have HPUT := hide (put1_bldT (Nat.le_of_eq (unhide HGS)) (unhide HB0) hn ho hb (by have := unhide HLL; have := unhide HLN; omega))
                         clear hn ho hb hc)))
                      | (go_at_call 45; go_must ((
                         refine Calls.mono (unhide HPUT) ?_
                         rintro _ w9 ⟨b9, rfl, hbld⟩
                         have f7' : w9.cell? ⟨g, 7, none⟩ = some (.slice vA m.vec.length vc) := hbld.bld.mem.blk0.cell 7
                         have hgl9 := hbld.bld.mem.blk0.lt
                         have HB9 := hide hbld
                         clear hbld))))
                    have HS1 : Hid (BldT w w9 g gg (mcells m A c vA vc) 75 (hasA m) (newHead m ++ (newT m 6 ++ (Num.uv m.vec.length ++ (m.vec.take 0).flatMap fun x => Num.uv x.toNat))) b9) := hide ((unhide HB9).as (by simp))
                    clear f0 f1 f2 f3 f4 f5 f6 f7 f8 f9 f10 f11 f12 f13 hgl hggs f7' hgl9
                    go_loopw [7, 164] (fun b i wr => ∃ k : Nat, k ≤ m.vec.length ∧ i = .int .i64 k ∧ BldT w wr g gg (mcells m A c vA vc) 75 (hasA m) (newHead m ++ (newT m 6 ++ (Num.uv m.vec.length ++ (m.vec.take k).flatMap fun x => Num.uv x.toNat))) b) (fun _ i _ => m.vec.length - (intOf i).toNat)
                    case atStart => exact ⟨0, by omega, rfl, unhide HS1⟩
                    case round =>
                      obtain ⟨k, hk, rfl, hbd⟩ := hrel
                      clear HS1 HB9 HB0 HPUT
                      have HB0 := hide hbd
                      clear hbd
                      obtain ⟨A0, n0, c0, rfl, hn0, _⟩ := (unhide HB0).bld.row
                      have HN0 := hide hn0
                      clear hn0
                      by_cases hlt : k < m.vec.length
                      · obtain ⟨x, hx⟩ : ∃ x, m.vec[k]? = some x := ⟨m.vec[k], List.getElem?_eq_getElem hlt⟩
                        obtain ⟨ad, hA, _, hcs⟩ := ((unhide HVC).below (unhide HB0).bld.mem.below) (by rw [List.length_map]; omega)
                        subst hA
                        have a0 := hcs k (.int .u64 x) (by rw [List.getElem?_map, hx]; rfl)
                        have rx := (unhide HRG).vec x (List.mem_of_getElem? hx)
                        have HF2 : Hid (∀ u, Calls Try.prog 49 #[.int .u64 x] u (NewB u (Num.uv x.toNat))) := fun u => wuvar_any x u rx.1 rx.2
                        have HLX := hide (uvl x rx.1 rx.2)
                        have HLE := hide (vecs_len (l := m.vec.take k) fun y hy => (unhide HRG).vec y (List.mem_of_mem_take hy))
                        have HTK := hide (List.length_take_le k m.vec)
                        have HSU := hide (flat_succ (fun x : Int => Num.uv x.toNat) hx)
                        obtain ⟨PRE, hPRE⟩ : ∃ P, newHead m ++ (newT m 6 ++ (Num.uv m.vec.length ++ (m.vec.take k).flatMap fun x => Num.uv x.toNat)) = P := ⟨_, rfl⟩
                        rw [hPRE] at HB0 HN0
                        have HPL : Hid (PRE.length ≤ 1640000) := hide (by rw [← hPRE]; have h1 := unhide HLN; have h2 := unhide HLL; have h3 := unhide HLE; have h4 := unhide HTK; simp only [List.length_append] at h1 ⊢; omega)
                        have HPRE := hide hPRE
                        clear hcs hx rx hPRE HLL HLN
                        have HLL := HLX
                        have HLN := HPL
                        go_wp2_with (first
                          | (go_at_call 49; (with_reducible refine Calls.mono (unhide HF2 _) ?_); go_must ((
                             rintro _ u1 ⟨A1, n1, c1, rfl, hn, ho, hb, hc⟩
                             have HPUT := hide (put1_bldT (Nat.le_of_eq (unhide HGS)) (unhide HB0) hn ho hb (by have := unhide HLL; have := unhide HLN; omega))
                             clear hn ho hb hc)))
                          | (go_at_call 45; go_must ((
                             refine Calls.mono (unhide HPUT) ?_
                             rintro _ w9 ⟨b9, rfl, hbld⟩
                             have HB9 := hide hbld
                             clear hbld)))
                          )
                        exact ⟨⟨k + 1, by omega, by go_num, (unhide HB9).as (by rw [unhide HSU, ← unhide HPRE]; simp only [List.append_assoc])⟩, by simp [intOf]; omega⟩
                      · obtain rfl : k = m.vec.length := by omega
                        go_wp2_with fail
                        go_meet
                        case rel => exact (unhide HB0).as (by show newHead m ++ (newT m 6 ++ _) = newHead m ++ (newT m 6 ++ nC m.vec); unfold nC; rw [unhide HZ, List.take_length]; rfl)
                  · have HZ := HTT
                    go_wp2_with fail
                    go_meet
                    case rel => exact (unhide HB0).as (by show newHead m ++ newT m 6 = newHead m ++ (newT m 6 ++ nC m.vec); unfold nC; rw [unhide HZ]; simp)
                  -- q6]
                case rest =>
                  clear HB0 f0 f1 f2 f3 f4 f5 f6 f7 f8 f9 f10 f11 f12 f13 hgl hggs hc HN0 HTT
                  have HB0 := hide hcut
                  clear hcut
                  obtain ⟨A0, n0, c0, rfl, hn0, _⟩ := (unhide HB0).bld.row
                  have HN0 := hide hn0
                  clear hn0
                  obtain ⟨f0, f1, f2, f3, f4, f5, f6, f7, f8, f9, f10, f11, f12, f13⟩ := mAt (unhide HB0).bld.mem.blk0
                  have hgl := (unhide HB0).bld.mem.blk0.lt
                  have hggs := (unhide HB0).blk.lt
                  obtain ⟨tt, htt⟩ : ∃ t, nzC m.cmd = t := ⟨_, rfl⟩
                  have hc : wc.cell? ⟨gg, 7, none⟩ = some (.bool tt) := by rw [← htt]; exact (unhide HB0).blk.cell 7
                  have HTT := hide htt
                  clear htt
                  go_upto_if 175 with fail
                  go_cut [7] (fun b u => BldT w u g gg (mcells m A c vA vc) 75 (hasA m) (newHead m ++ newT m 8) b)
                  case first =>
                    as_aux_lemma =>
                    -- [q7
                    clear hc
                    have HLN := hide (head_len (unhide HGD) (unhide HRG) 7 (by omega))
                    cases tt
                    rotate_left
                    · have HZ := HTT
                      have HNC : Hid (∀ u, Calls Try.prog 33 #[.agg #[.int .i64 m.cmd.kind, .int .i64 m.cmd.dc, .int .i64 m.cmd.shard, .int .i64 m.cmd.node, .int .i64 m.cmd.mode, .string m.cmd.key]] u fun e w' => e = .returned (.agg #[.int .i64 m.cmd.kind, .int .i64 m.cmd.dc, .int .i64 m.cmd.shard, .int .i64 m.cmd.node, .int .i64 m.cmd.mode]) ∧ Below u.heap.size u w') := fun u => numbers_any m.cmd u
                      go_wp2_with (go_at_call 33; refine (unhide HNC _).mono ?_; rintro _ w5 ⟨rfl, hb5⟩
                                   have HM5 := hide ((unhide HB0).go hb5)
                                   clear hb5)
                      have HS1 : Hid (BldT w w5 g gg (mcells m A c vA vc) 75 (hasA m) (newHead m ++ (newT m 7 ++ (m.cmd.nums.take 0).flatMap fun x => Num.uv x.toNat)) (.slice A0 n0 c0)) := hide ((unhide HM5).as (by simp))
                      clear f0 f1 f2 f3 f4 f5 f6 f7 f8 f9 f10 f11 f12 f13 hgl hggs
                      go_loopw [7, 179] (fun b i wr => ∃ k : Nat, k ≤ 5 ∧ i = .int .i64 k ∧ BldT w wr g gg (mcells m A c vA vc) 75 (hasA m) (newHead m ++ (newT m 7 ++ (m.cmd.nums.take k).flatMap fun x => Num.uv x.toNat)) b) (fun _ i _ => 5 - (intOf i).toNat)
                      case atStart => exact ⟨0, by omega, rfl, unhide HS1⟩
                      case round =>
                        obtain ⟨k, hk5, rfl, hbd⟩ := hrel
                        clear HS1 HM5 HB0 HN0
                        have HB0 := hide hbd
                        clear hbd
                        obtain ⟨A0, n0, c0, rfl, hn0, _⟩ := (unhide HB0).bld.row
                        have HN0 := hide hn0
                        clear hn0
                        have HLE := hide (Nat.le_trans (take_sub (fun x : Int => Num.uv x.toNat) m.cmd.nums k) (nums_len (unhide HGD).cmd))
                        have HLN2 : Hid ((newHead m ++ (newT m 7 ++ (m.cmd.nums.take k).flatMap fun x => Num.uv x.toNat)).length ≤ 1640000) := hide (by have h1 := unhide HLN; have h2 := unhide HLE; simp only [List.length_append] at h1 ⊢; omega)
                        clear HLN
                        have HLN := HLN2
                        by_cases h5 : k = 5
                        · subst h5
                          have f13 := (mAt (unhide HB0).bld.mem.blk0).2.2.2.2.2.2.2.2.2.2.2.2.2
                          have hgl := (unhide HB0).bld.mem.blk0.lt
                          have hky := (unhide HGD).cmd.key
                          rw [size_list'] at hky
                          have HF4 : Hid (∀ u, Calls Try.prog 50 #[.string m.cmd.key] u (NewB u (txU m.cmd.key))) := fun u => wtext_any m.cmd.key u (by omega)
                          have HLL : Hid ((txU m.cmd.key).length ≤ 100) := hide (Nat.le_trans (txU_len (by omega)) (by omega))
                          clear hky
                          go_wp2_with (first
                            | (go_at_call 50; (with_reducible refine Calls.mono (unhide HF4 _) ?_); go_must ((
                               rintro _ u1 ⟨A1, n1, c1, rfl, hn, ho, hb, hc⟩
                               have HPUT := hide (put1_bldT (Nat.le_of_eq (unhide HGS)) (unhide HB0) hn ho hb (by have := unhide HLL; have := unhide HLN; omega))
                               clear hn ho hb hc)))
                            | (go_at_call 45; go_must ((
                               refine Calls.mono (unhide HPUT) ?_
                               rintro _ w9 ⟨b9, rfl, hbld⟩
                               have HB9 := hide hbld
                               clear hbld)))
                            )
                          go_meet
                          case rel => exact (unhide HB9).as (by show newHead m ++ (newT m 7 ++ _) ++ _ = newHead m ++ (newT m 7 ++ nK m.cmd); unfold nK; rw [unhide HZ]; simp only [List.append_assoc]; rfl)
                        · obtain ⟨i0, i1, i2, i3, i4⟩ := idx5 m.cmd wr
                          obtain rfl | rfl | rfl | rfl | rfl : k = 0 ∨ k = 1 ∨ k = 2 ∨ k = 3 ∨ k = 4 := by omega
                          ·
                            have HF3 : Hid (∀ u, Calls Try.prog 49 #[.int .u64 m.cmd.kind] u (NewB u (Num.uv m.cmd.kind.toNat))) := fun u => wuvar_any m.cmd.kind u (unhide HGD).cmd.kind.1 (by have := (unhide HGD).cmd.kind.2; omega)
                            have HLL : Hid ((Num.uv m.cmd.kind.toNat).length ≤ 100) := hide (Nat.le_trans (uvl m.cmd.kind (unhide HGD).cmd.kind.1 (by have := (unhide HGD).cmd.kind.2; omega)) (by omega))
                            have e7 := wrap64 (n := m.cmd.kind) (unhide HGD).cmd.kind.1 (by have := (unhide HGD).cmd.kind.2; omega)
                            have HSU := hide (flat_succ (fun x : Int => Num.uv x.toNat) (l := m.cmd.nums) (k := 0) (x := m.cmd.kind) rfl)
                            go_wp2_with (first
                              | (go_at_call 49; (with_reducible refine Calls.mono (unhide HF3 _) ?_); go_must ((
                                 rintro _ u1 ⟨A1, n1, c1, rfl, hn, ho, hb, hc⟩
                                 have HPUT := hide (put1_bldT (Nat.le_of_eq (unhide HGS)) (unhide HB0) hn ho hb (by have := unhide HLL; have := unhide HLN; omega))
                                 clear hn ho hb hc)))
                              | (go_at_call 45; go_must ((
                                 refine Calls.mono (unhide HPUT) ?_
                                 rintro _ w9 ⟨b9, rfl, hbld⟩
                                 have HB9 := hide hbld
                                 clear hbld)))
                              )
                            exact ⟨⟨1, by omega, rfl, (unhide HB9).as (by rw [unhide HSU]; simp only [List.append_assoc])⟩, by simp [intOf]⟩
                          ·
                            have HF3 : Hid (∀ u, Calls Try.prog 49 #[.int .u64 m.cmd.dc] u (NewB u (Num.uv m.cmd.dc.toNat))) := fun u => wuvar_any m.cmd.dc u (unhide HGD).cmd.dc.1 (by have := (unhide HGD).cmd.dc.2; omega)
                            have HLL : Hid ((Num.uv m.cmd.dc.toNat).length ≤ 100) := hide (Nat.le_trans (uvl m.cmd.dc (unhide HGD).cmd.dc.1 (by have := (unhide HGD).cmd.dc.2; omega)) (by omega))
                            have e7 := wrap64 (n := m.cmd.dc) (unhide HGD).cmd.dc.1 (by have := (unhide HGD).cmd.dc.2; omega)
                            have HSU := hide (flat_succ (fun x : Int => Num.uv x.toNat) (l := m.cmd.nums) (k := 1) (x := m.cmd.dc) rfl)
                            go_wp2_with (first
                              | (go_at_call 49; (with_reducible refine Calls.mono (unhide HF3 _) ?_); go_must ((
                                 rintro _ u1 ⟨A1, n1, c1, rfl, hn, ho, hb, hc⟩
                                 have HPUT := hide (put1_bldT (Nat.le_of_eq (unhide HGS)) (unhide HB0) hn ho hb (by have := unhide HLL; have := unhide HLN; omega))
                                 clear hn ho hb hc)))
                              | (go_at_call 45; go_must ((
                                 refine Calls.mono (unhide HPUT) ?_
                                 rintro _ w9 ⟨b9, rfl, hbld⟩
                                 have HB9 := hide hbld
                                 clear hbld)))
                              )
                            exact ⟨⟨2, by omega, rfl, (unhide HB9).as (by rw [unhide HSU]; simp only [List.append_assoc])⟩, by simp [intOf]⟩
                          ·
                            have HF3 : Hid (∀ u, Calls Try.prog 49 #[.int .u64 m.cmd.shard] u (NewB u (Num.uv m.cmd.shard.toNat))) := fun u => wuvar_any m.cmd.shard u (unhide HGD).cmd.shard.1 (by have := (unhide HGD).cmd.shard.2; omega)
                            have HLL : Hid ((Num.uv m.cmd.shard.toNat).length ≤ 100) := hide (Nat.le_trans (uvl m.cmd.shard (unhide HGD).cmd.shard.1 (by have := (unhide HGD).cmd.shard.2; omega)) (by omega))
                            have e7 := wrap64 (n := m.cmd.shard) (unhide HGD).cmd.shard.1 (by have := (unhide HGD).cmd.shard.2; omega)
                            have HSU := hide (flat_succ (fun x : Int => Num.uv x.toNat) (l := m.cmd.nums) (k := 2) (x := m.cmd.shard) rfl)
                            go_wp2_with (first
                              | (go_at_call 49; (with_reducible refine Calls.mono (unhide HF3 _) ?_); go_must ((
                                 rintro _ u1 ⟨A1, n1, c1, rfl, hn, ho, hb, hc⟩
                                 have HPUT := hide (put1_bldT (Nat.le_of_eq (unhide HGS)) (unhide HB0) hn ho hb (by have := unhide HLL; have := unhide HLN; omega))
                                 clear hn ho hb hc)))
                              | (go_at_call 45; go_must ((
                                 refine Calls.mono (unhide HPUT) ?_
                                 rintro _ w9 ⟨b9, rfl, hbld⟩
                                 have HB9 := hide hbld
                                 clear hbld)))
                              )
                            exact ⟨⟨3, by omega, rfl, (unhide HB9).as (by rw [unhide HSU]; simp only [List.append_assoc])⟩, by simp [intOf]⟩
                          ·
                            have HF3 : Hid (∀ u, Calls Try.prog 49 #[.int .u64 m.cmd.node] u (NewB u (Num.uv m.cmd.node.toNat))) := fun u => wuvar_any m.cmd.node u (unhide HGD).cmd.node.1 (by have := (unhide HGD).cmd.node.2; omega)
                            have HLL : Hid ((Num.uv m.cmd.node.toNat).length ≤ 100) := hide (Nat.le_trans (uvl m.cmd.node (unhide HGD).cmd.node.1 (by have := (unhide HGD).cmd.node.2; omega)) (by omega))
                            have e7 := wrap64 (n := m.cmd.node) (unhide HGD).cmd.node.1 (by have := (unhide HGD).cmd.node.2; omega)
                            have HSU := hide (flat_succ (fun x : Int => Num.uv x.toNat) (l := m.cmd.nums) (k := 3) (x := m.cmd.node) rfl)
                            go_wp2_with (first
                              | (go_at_call 49; (with_reducible refine Calls.mono (unhide HF3 _) ?_); go_must ((
                                 rintro _ u1 ⟨A1, n1, c1, rfl, hn, ho, hb, hc⟩
                                 have HPUT := hide (put1_bldT (Nat.le_of_eq (unhide HGS)) (unhide HB0) hn ho hb (by have := unhide HLL; have := unhide HLN; omega))
                                 clear hn ho hb hc)))
                              | (go_at_call 45; go_must ((
                                 refine Calls.mono (unhide HPUT) ?_
                                 rintro _ w9 ⟨b9, rfl, hbld⟩
                                 have HB9 := hide hbld
                                 clear hbld)))
                              )
                            exact ⟨⟨4, by omega, rfl, (unhide HB9).as (by rw [unhide HSU]; simp only [List.append_assoc])⟩, by simp [intOf]⟩
                          ·
                            have HF3 : Hid (∀ u, Calls Try.prog 49 #[.int .u64 m.cmd.mode] u (NewB u (Num.uv m.cmd.mode.toNat))) := fun u => wuvar_any m.cmd.mode u (unhide HGD).cmd.mode.1 (by have := (unhide HGD).cmd.mode.2; omega)
                            have HLL : Hid ((Num.uv m.cmd.mode.toNat).length ≤ 100) := hide (Nat.le_trans (uvl m.cmd.mode (unhide HGD).cmd.mode.1 (by have := (unhide HGD).cmd.mode.2; omega)) (by omega))
                            have e7 := wrap64 (n := m.cmd.mode) (unhide HGD).cmd.mode.1 (by have := (unhide HGD).cmd.mode.2; omega)
                            have HSU := hide (flat_succ (fun x : Int => Num.uv x.toNat) (l := m.cmd.nums) (k := 4) (x := m.cmd.mode) rfl)
                            go_wp2_with (first
                              | (go_at_call 49; (with_reducible refine Calls.mono (unhide HF3 _) ?_); go_must ((
                                 rintro _ u1 ⟨A1, n1, c1, rfl, hn, ho, hb, hc⟩
                                 have HPUT := hide (put1_bldT (Nat.le_of_eq (unhide HGS)) (unhide HB0) hn ho hb (by have := unhide HLL; have := unhide HLN; omega))
                                 clear hn ho hb hc)))
                              | (go_at_call 45; go_must ((
                                 refine Calls.mono (unhide HPUT) ?_
                                 rintro _ w9 ⟨b9, rfl, hbld⟩
                                 have HB9 := hide hbld
                                 clear hbld)))
                              )
                            exact ⟨⟨5, by omega, rfl, (unhide HB9).as (by rw [unhide HSU]; simp only [List.append_assoc])⟩, by simp [intOf]⟩
                    · have HZ := HTT
                      go_wp2_with fail
                      go_meet
                      case rel => exact (unhide HB0).as (by show newHead m ++ newT m 7 = newHead m ++ (newT m 7 ++ nK m.cmd); unfold nK; rw [unhide HZ]; simp)
                    -- q7]
                  case rest =>
                    clear HB0 f0 f1 f2 f3 f4 f5 f6 f7 f8 f9 f10 f11 f12 f13 hgl hggs hc HN0 HTT
                    have HB0 := hide hcut
                    clear hcut
                    obtain ⟨A0, n0, c0, rfl, hn0, _⟩ := (unhide HB0).bld.row
                    have HN0 := hide hn0
                    clear hn0
                    go_wp2_with fail
                    go_ret
                    exact (unhide HB0).bld.fresh (unhide HGS)
              -- r5]
            ·
              -- [txts
              obtain ⟨i0, i1⟩ := idx2 m.lo m.hi wr
              have HLN := hide (head_len (unhide HGD) (unhide HRG) (3 + k) (by omega))
              have hggs := (unhide HB0).blk.lt
              obtain rfl | rfl : k = 0 ∨ k = 1 := by omega
              ·
                have hc : wr.cell? ⟨gg, 3, none⟩ = some (.bool (nzS m.lo)) := (unhide HB0).blk.cell 3
                rcases Bool.eq_false_or_eq_true (nzS m.lo) with hz | hz
                · have HP := hide (nS_yes hz)
                  rw [hz] at hc
                  have HF1 : Hid (∀ u, Calls Try.prog 50 #[.string m.lo] u (NewB u (txU m.lo))) := fun u => wtext_any m.lo u (by omega)
                  have HLL : Hid ((txU m.lo).length ≤ 100) := hide (Nat.le_trans (txU_len (by omega)) (by omega))
                  clear hz
                  go_wp2_with (first
                    | (go_at_call 50; (with_reducible refine Calls.mono (unhide HF1 _) ?_); go_must ((
                       rintro _ u1 ⟨A1, n1, c1, rfl, hn, ho, hb, hc⟩
                       have HPUT := hide (put1_bldT (Nat.le_of_eq (unhide HGS)) (unhide HB0) hn ho hb (by have := unhide HLL; have := unhide HLN; omega))
                       clear hn ho hb hc)))
                    | (go_at_call 45; go_must ((
                       refine Calls.mono (unhide HPUT) ?_
                       rintro _ w9 ⟨b9, rfl, hbld⟩
                       have HB9 := hide hbld
                       clear hbld)))
                    )
                  go_roundw
                  case rel => exact ⟨1, by omega, rfl, (unhide HB9).as (by show (newHead m ++ newT m 3) ++ _ = newHead m ++ (newT m 3 ++ nS m.lo); rw [unhide HP, List.append_assoc])⟩
                  case measure => simp [intOf]
                · have HP := hide (nS_no hz)
                  rw [hz] at hc
                  clear hz
                  go_wp2_with fail
                  go_roundw
                  case rel => exact ⟨1, by omega, rfl, (unhide HB0).as (by show newHead m ++ newT m 3 = newHead m ++ (newT m 3 ++ nS m.lo); rw [unhide HP, List.append_nil])⟩
                  case measure => simp [intOf]
              ·
                have hc : wr.cell? ⟨gg, 4, none⟩ = some (.bool (nzS m.hi)) := (unhide HB0).blk.cell 4
                rcases Bool.eq_false_or_eq_true (nzS m.hi) with hz | hz
                · have HP := hide (nS_yes hz)
                  rw [hz] at hc
                  have HF1 : Hid (∀ u, Calls Try.prog 50 #[.string m.hi] u (NewB u (txU m.hi))) := fun u => wtext_any m.hi u (by omega)
                  have HLL : Hid ((txU m.hi).length ≤ 100) := hide (Nat.le_trans (txU_len (by omega)) (by omega))
                  clear hz
                  go_wp2_with (first
                    | (go_at_call 50; (with_reducible refine Calls.mono (unhide HF1 _) ?_); go_must ((
                       rintro _ u1 ⟨A1, n1, c1, rfl, hn, ho, hb, hc⟩
                       have HPUT := hide (put1_bldT (Nat.le_of_eq (unhide HGS)) (unhide HB0) hn ho hb (by have := unhide HLL; have := unhide HLN; omega))
                       clear hn ho hb hc)))
                    | (go_at_call 45; go_must ((
                       refine Calls.mono (unhide HPUT) ?_
                       rintro _ w9 ⟨b9, rfl, hbld⟩
                       have HB9 := hide hbld
                       clear hbld)))
                    )
                  go_roundw
                  case rel => exact ⟨2, by omega, rfl, (unhide HB9).as (by show (newHead m ++ newT m 4) ++ _ = newHead m ++ (newT m 4 ++ nS m.hi); rw [unhide HP, List.append_assoc])⟩
                  case measure => simp [intOf]
                · have HP := hide (nS_no hz)
                  rw [hz] at hc
                  clear hz
                  go_wp2_with fail
                  go_roundw
                  case rel => exact ⟨2, by omega, rfl, (unhide HB0).as (by show newHead m ++ newT m 4 = newHead m ++ (newT m 4 ++ nS m.hi); rw [unhide HP, List.append_nil])⟩
                  case measure => simp [intOf]
              -- txts]
          -- r3]
        ·
          -- [nums
          obtain ⟨i0, i1, i2⟩ := idx3 m.id m.n m.ts wr
          have HLN := hide (head_len (unhide HGD) (unhide HRG) k (by omega))
          have hggs := (unhide HB0).blk.lt
          obtain rfl | rfl | rfl : k = 0 ∨ k = 1 ∨ k = 2 := by omega
          ·
            have hc : wr.cell? ⟨gg, 0, none⟩ = some (.bool (nzI m.id)) := (unhide HB0).blk.cell 0
            rcases Bool.eq_false_or_eq_true (nzI m.id) with hz | hz
            · have HP := hide (nI_yes hz)
              rw [hz] at hc
              have HF1 : Hid (∀ u, Calls Try.prog 49 #[.int .u64 m.id] u (NewB u (Num.uv m.id.toNat))) := fun u => wuvar_any m.id u (unhide HRG).id.1 (unhide HRG).id.2
              have HLL : Hid ((Num.uv m.id.toNat).length ≤ 100) := hide (Nat.le_trans (uvl m.id (unhide HRG).id.1 (unhide HRG).id.2) (by omega))
              clear hz
              go_wp2_with (first
                | (go_at_call 49; (with_reducible refine Calls.mono (unhide HF1 _) ?_); go_must ((
                   rintro _ u1 ⟨A1, n1, c1, rfl, hn, ho, hb, hc⟩
                   have HPUT := hide (put1_bldT (Nat.le_of_eq (unhide HGS)) (unhide HB0) hn ho hb (by have := unhide HLL; have := unhide HLN; omega))
                   clear hn ho hb hc)))
                | (go_at_call 45; go_must ((
                   refine Calls.mono (unhide HPUT) ?_
                   rintro _ w9 ⟨b9, rfl, hbld⟩
                   have HB9 := hide hbld
                   clear hbld)))
                )
              go_roundw
              case rel => exact ⟨1, by omega, rfl, (unhide HB9).as (by show (newHead m ++ newT m 0) ++ _ = newHead m ++ (newT m 0 ++ nI m.id); rw [unhide HP, List.append_assoc])⟩
              case measure => simp [intOf]
            · have HP := hide (nI_no hz)
              rw [hz] at hc
              clear hz
              go_wp2_with fail
              go_roundw
              case rel => exact ⟨1, by omega, rfl, (unhide HB0).as (by show newHead m ++ newT m 0 = newHead m ++ (newT m 0 ++ nI m.id); rw [unhide HP, List.append_nil])⟩
              case measure => simp [intOf]
          ·
            have hc : wr.cell? ⟨gg, 1, none⟩ = some (.bool (nzI m.n)) := (unhide HB0).blk.cell 1
            rcases Bool.eq_false_or_eq_true (nzI m.n) with hz | hz
            · have HP := hide (nI_yes hz)
              rw [hz] at hc
              have HF1 : Hid (∀ u, Calls Try.prog 49 #[.int .u64 m.n] u (NewB u (Num.uv m.n.toNat))) := fun u => wuvar_any m.n u (unhide HRG).n.1 (unhide HRG).n.2
              have HLL : Hid ((Num.uv m.n.toNat).length ≤ 100) := hide (Nat.le_trans (uvl m.n (unhide HRG).n.1 (unhide HRG).n.2) (by omega))
              clear hz
              go_wp2_with (first
                | (go_at_call 49; (with_reducible refine Calls.mono (unhide HF1 _) ?_); go_must ((
                   rintro _ u1 ⟨A1, n1, c1, rfl, hn, ho, hb, hc⟩
                   have HPUT := hide (put1_bldT (Nat.le_of_eq (unhide HGS)) (unhide HB0) hn ho hb (by have := unhide HLL; have := unhide HLN; omega))
                   clear hn ho hb hc)))
                | (go_at_call 45; go_must ((
                   refine Calls.mono (unhide HPUT) ?_
                   rintro _ w9 ⟨b9, rfl, hbld⟩
                   have HB9 := hide hbld
                   clear hbld)))
                )
              go_roundw
              case rel => exact ⟨2, by omega, rfl, (unhide HB9).as (by show (newHead m ++ newT m 1) ++ _ = newHead m ++ (newT m 1 ++ nI m.n); rw [unhide HP, List.append_assoc])⟩
              case measure => simp [intOf]
            · have HP := hide (nI_no hz)
              rw [hz] at hc
              clear hz
              go_wp2_with fail
              go_roundw
              case rel => exact ⟨2, by omega, rfl, (unhide HB0).as (by show newHead m ++ newT m 1 = newHead m ++ (newT m 1 ++ nI m.n); rw [unhide HP, List.append_nil])⟩
              case measure => simp [intOf]
          ·
            have hc : wr.cell? ⟨gg, 2, none⟩ = some (.bool (nzI m.ts)) := (unhide HB0).blk.cell 2
            rcases Bool.eq_false_or_eq_true (nzI m.ts) with hz | hz
            · have HP := hide (nI_yes hz)
              rw [hz] at hc
              have HF1 : Hid (∀ u, Calls Try.prog 49 #[.int .u64 m.ts] u (NewB u (Num.uv m.ts.toNat))) := fun u => wuvar_any m.ts u (unhide HRG).ts.1 (unhide HRG).ts.2
              have HLL : Hid ((Num.uv m.ts.toNat).length ≤ 100) := hide (Nat.le_trans (uvl m.ts (unhide HRG).ts.1 (unhide HRG).ts.2) (by omega))
              clear hz
              go_wp2_with (first
                | (go_at_call 49; (with_reducible refine Calls.mono (unhide HF1 _) ?_); go_must ((
                   rintro _ u1 ⟨A1, n1, c1, rfl, hn, ho, hb, hc⟩
                   have HPUT := hide (put1_bldT (Nat.le_of_eq (unhide HGS)) (unhide HB0) hn ho hb (by have := unhide HLL; have := unhide HLN; omega))
                   clear hn ho hb hc)))
                | (go_at_call 45; go_must ((
                   refine Calls.mono (unhide HPUT) ?_
                   rintro _ w9 ⟨b9, rfl, hbld⟩
                   have HB9 := hide hbld
                   clear hbld)))
                )
              go_roundw
              case rel => exact ⟨3, by omega, rfl, (unhide HB9).as (by show (newHead m ++ newT m 2) ++ _ = newHead m ++ (newT m 2 ++ nI m.ts); rw [unhide HP, List.append_assoc])⟩
              case measure => simp [intOf]
            · have HP := hide (nI_no hz)
              rw [hz] at hc
              clear hz
              go_wp2_with fail
              go_roundw
              case rel => exact ⟨3, by omega, rfl, (unhide HB0).as (by show newHead m ++ newT m 2 = newHead m ++ (newT m 2 ++ nI m.ts); rw [unhide HP, List.append_nil])⟩
              case measure => simp [intOf]
          -- nums]
      -- rest]
    ·
      -- [mask
      obtain rfl | rfl | rfl | rfl | rfl | rfl | rfl | rfl : k = 0 ∨ k = 1 ∨ k = 2 ∨ k = 3 ∨ k = 4 ∨ k = 5 ∨ k = 6 ∨ k = 7 := by omega
      ·
        rcases Bool.eq_false_or_eq_true (nzI m.id) with hz | hz
        · have HZ := hide hz
          replace i0 := i0.trans (congrArg (fun b => Result.ok (Value.bool b) w2) hz)
          clear hz
          have ob : bits BinOp.or IntKind.u8 0 1 = 1 := by decide
          go_wp2_with (go_at_call 48; refine (bitv_any _ _).mono ?_; rintro _ w4 ⟨rfl, rfl⟩)
          exact ⟨⟨1, by omega, rfl, congrArg (Value.int .u8) (by show bits BinOp.or IntKind.u8 0 1 = b2 (nzI m.id); rw [b2t (unhide HZ)]; decide), by trivial⟩, by simp [intOf]⟩
        · have HZ := hide hz
          replace i0 := i0.trans (congrArg (fun b => Result.ok (Value.bool b) w2) hz)
          clear hz
          go_wp2_with (go_at_call 48; refine (bitv_any _ _).mono ?_; rintro _ w4 ⟨rfl, rfl⟩)
          exact ⟨⟨1, by omega, rfl, congrArg (Value.int .u8) (by show bits BinOp.or IntKind.u8 0 0 = b2 (nzI m.id); rw [b2f (unhide HZ)]; decide), by trivial⟩, by simp [intOf]⟩
      ·
        have hob := or_bit (newM m 1) 1 (by omega) hml.1 hml.2
        simp only [Int.reducePow] at hob
        obtain ⟨M, hM⟩ : ∃ M, newM m 1 = M := ⟨_, rfl⟩
        rw [hM] at hob
        rw [hM]
        have HMM := hide hM
        obtain ⟨o0, o1⟩ := hob
        clear hM hml
        rcases Bool.eq_false_or_eq_true (nzI m.n) with hz | hz
        · have HZ := hide hz
          replace i1 := i1.trans (congrArg (fun b => Result.ok (Value.bool b) w2) hz)
          clear hz
          go_wp2_with (go_at_call 48; refine (bitv_any _ _).mono ?_; rintro _ w4 ⟨rfl, rfl⟩)
          exact ⟨⟨2, by omega, rfl, congrArg (Value.int .u8) (by show _ = newM m 1 + 2 * b2 (nzI m.n); rw [unhide HMM, b2t (unhide HZ)]; omega), by trivial⟩, by simp [intOf]⟩
        · have HZ := hide hz
          replace i1 := i1.trans (congrArg (fun b => Result.ok (Value.bool b) w2) hz)
          clear hz
          go_wp2_with (go_at_call 48; refine (bitv_any _ _).mono ?_; rintro _ w4 ⟨rfl, rfl⟩)
          exact ⟨⟨2, by omega, rfl, congrArg (Value.int .u8) (by show _ = newM m 1 + 2 * b2 (nzI m.n); rw [unhide HMM, b2f (unhide HZ)]; omega), by trivial⟩, by simp [intOf]⟩
      ·
        have hob := or_bit (newM m 2) 2 (by omega) hml.1 hml.2
        simp only [Int.reducePow] at hob
        obtain ⟨M, hM⟩ : ∃ M, newM m 2 = M := ⟨_, rfl⟩
        rw [hM] at hob
        rw [hM]
        have HMM := hide hM
        obtain ⟨o0, o1⟩ := hob
        clear hM hml
        rcases Bool.eq_false_or_eq_true (nzI m.ts) with hz | hz
        · have HZ := hide hz
          replace i2 := i2.trans (congrArg (fun b => Result.ok (Value.bool b) w2) hz)
          clear hz
          go_wp2_with (go_at_call 48; refine (bitv_any _ _).mono ?_; rintro _ w4 ⟨rfl, rfl⟩)
          exact ⟨⟨3, by omega, rfl, congrArg (Value.int .u8) (by show _ = newM m 2 + 4 * b2 (nzI m.ts); rw [unhide HMM, b2t (unhide HZ)]; omega), by trivial⟩, by simp [intOf]⟩
        · have HZ := hide hz
          replace i2 := i2.trans (congrArg (fun b => Result.ok (Value.bool b) w2) hz)
          clear hz
          go_wp2_with (go_at_call 48; refine (bitv_any _ _).mono ?_; rintro _ w4 ⟨rfl, rfl⟩)
          exact ⟨⟨3, by omega, rfl, congrArg (Value.int .u8) (by show _ = newM m 2 + 4 * b2 (nzI m.ts); rw [unhide HMM, b2f (unhide HZ)]; omega), by trivial⟩, by simp [intOf]⟩
      ·
        have hob := or_bit (newM m 3) 3 (by omega) hml.1 hml.2
        simp only [Int.reducePow] at hob
        obtain ⟨M, hM⟩ : ∃ M, newM m 3 = M := ⟨_, rfl⟩
        rw [hM] at hob
        rw [hM]
        have HMM := hide hM
        obtain ⟨o0, o1⟩ := hob
        clear hM hml
        rcases Bool.eq_false_or_eq_true (nzS m.lo) with hz | hz
        · have HZ := hide hz
          replace i3 := i3.trans (congrArg (fun b => Result.ok (Value.bool b) w2) hz)
          clear hz
          go_wp2_with (go_at_call 48; refine (bitv_any _ _).mono ?_; rintro _ w4 ⟨rfl, rfl⟩)
          exact ⟨⟨4, by omega, rfl, congrArg (Value.int .u8) (by show _ = newM m 3 + 8 * b2 (nzS m.lo); rw [unhide HMM, b2t (unhide HZ)]; omega), by trivial⟩, by simp [intOf]⟩
        · have HZ := hide hz
          replace i3 := i3.trans (congrArg (fun b => Result.ok (Value.bool b) w2) hz)
          clear hz
          go_wp2_with (go_at_call 48; refine (bitv_any _ _).mono ?_; rintro _ w4 ⟨rfl, rfl⟩)
          exact ⟨⟨4, by omega, rfl, congrArg (Value.int .u8) (by show _ = newM m 3 + 8 * b2 (nzS m.lo); rw [unhide HMM, b2f (unhide HZ)]; omega), by trivial⟩, by simp [intOf]⟩
      ·
        have hob := or_bit (newM m 4) 4 (by omega) hml.1 hml.2
        simp only [Int.reducePow] at hob
        obtain ⟨M, hM⟩ : ∃ M, newM m 4 = M := ⟨_, rfl⟩
        rw [hM] at hob
        rw [hM]
        have HMM := hide hM
        obtain ⟨o0, o1⟩ := hob
        clear hM hml
        rcases Bool.eq_false_or_eq_true (nzS m.hi) with hz | hz
        · have HZ := hide hz
          replace i4 := i4.trans (congrArg (fun b => Result.ok (Value.bool b) w2) hz)
          clear hz
          go_wp2_with (go_at_call 48; refine (bitv_any _ _).mono ?_; rintro _ w4 ⟨rfl, rfl⟩)
          exact ⟨⟨5, by omega, rfl, congrArg (Value.int .u8) (by show _ = newM m 4 + 16 * b2 (nzS m.hi); rw [unhide HMM, b2t (unhide HZ)]; omega), by trivial⟩, by simp [intOf]⟩
        · have HZ := hide hz
          replace i4 := i4.trans (congrArg (fun b => Result.ok (Value.bool b) w2) hz)
          clear hz
          go_wp2_with (go_at_call 48; refine (bitv_any _ _).mono ?_; rintro _ w4 ⟨rfl, rfl⟩)
          exact ⟨⟨5, by omega, rfl, congrArg (Value.int .u8) (by show _ = newM m 4 + 16 * b2 (nzS m.hi); rw [unhide HMM, b2f (unhide HZ)]; omega), by trivial⟩, by simp [intOf]⟩
      ·
        have hob := or_bit (newM m 5) 5 (by omega) hml.1 hml.2
        simp only [Int.reducePow] at hob
        obtain ⟨M, hM⟩ : ∃ M, newM m 5 = M := ⟨_, rfl⟩
        rw [hM] at hob
        rw [hM]
        have HMM := hide hM
        obtain ⟨o0, o1⟩ := hob
        clear hM hml
        rcases Bool.eq_false_or_eq_true (nzL m.vers) with hz | hz
        · have HZ := hide hz
          replace i5 := i5.trans (congrArg (fun b => Result.ok (Value.bool b) w2) hz)
          clear hz
          go_wp2_with (go_at_call 48; refine (bitv_any _ _).mono ?_; rintro _ w4 ⟨rfl, rfl⟩)
          exact ⟨⟨6, by omega, rfl, congrArg (Value.int .u8) (by show _ = newM m 5 + 32 * b2 (nzL m.vers); rw [unhide HMM, b2t (unhide HZ)]; omega), by trivial⟩, by simp [intOf]⟩
        · have HZ := hide hz
          replace i5 := i5.trans (congrArg (fun b => Result.ok (Value.bool b) w2) hz)
          clear hz
          go_wp2_with (go_at_call 48; refine (bitv_any _ _).mono ?_; rintro _ w4 ⟨rfl, rfl⟩)
          exact ⟨⟨6, by omega, rfl, congrArg (Value.int .u8) (by show _ = newM m 5 + 32 * b2 (nzL m.vers); rw [unhide HMM, b2f (unhide HZ)]; omega), by trivial⟩, by simp [intOf]⟩
      ·
        have hob := or_bit (newM m 6) 6 (by omega) hml.1 hml.2
        simp only [Int.reducePow] at hob
        obtain ⟨M, hM⟩ : ∃ M, newM m 6 = M := ⟨_, rfl⟩
        rw [hM] at hob
        rw [hM]
        have HMM := hide hM
        obtain ⟨o0, o1⟩ := hob
        clear hM hml
        rcases Bool.eq_false_or_eq_true (nzL m.vec) with hz | hz
        · have HZ := hide hz
          replace i6 := i6.trans (congrArg (fun b => Result.ok (Value.bool b) w2) hz)
          clear hz
          go_wp2_with (go_at_call 48; refine (bitv_any _ _).mono ?_; rintro _ w4 ⟨rfl, rfl⟩)
          exact ⟨⟨7, by omega, rfl, congrArg (Value.int .u8) (by show _ = newM m 6 + 64 * b2 (nzL m.vec); rw [unhide HMM, b2t (unhide HZ)]; omega), by trivial⟩, by simp [intOf]⟩
        · have HZ := hide hz
          replace i6 := i6.trans (congrArg (fun b => Result.ok (Value.bool b) w2) hz)
          clear hz
          go_wp2_with (go_at_call 48; refine (bitv_any _ _).mono ?_; rintro _ w4 ⟨rfl, rfl⟩)
          exact ⟨⟨7, by omega, rfl, congrArg (Value.int .u8) (by show _ = newM m 6 + 64 * b2 (nzL m.vec); rw [unhide HMM, b2f (unhide HZ)]; omega), by trivial⟩, by simp [intOf]⟩
      ·
        have hob := or_bit (newM m 7) 7 (by omega) hml.1 hml.2
        simp only [Int.reducePow] at hob
        obtain ⟨M, hM⟩ : ∃ M, newM m 7 = M := ⟨_, rfl⟩
        rw [hM] at hob
        rw [hM]
        have HMM := hide hM
        obtain ⟨o0, o1⟩ := hob
        clear hM hml
        rcases Bool.eq_false_or_eq_true (nzC m.cmd) with hz | hz
        · have HZ := hide hz
          replace i7 := i7.trans (congrArg (fun b => Result.ok (Value.bool b) w2) hz)
          clear hz
          go_wp2_with (go_at_call 48; refine (bitv_any _ _).mono ?_; rintro _ w4 ⟨rfl, rfl⟩)
          exact ⟨⟨8, by omega, rfl, congrArg (Value.int .u8) (by show _ = newM m 7 + 128 * b2 (nzC m.cmd); rw [unhide HMM, b2t (unhide HZ)]; omega), by trivial⟩, by simp [intOf]⟩
        · have HZ := hide hz
          replace i7 := i7.trans (congrArg (fun b => Result.ok (Value.bool b) w2) hz)
          clear hz
          go_wp2_with (go_at_call 48; refine (bitv_any _ _).mono ?_; rintro _ w4 ⟨rfl, rfl⟩)
          exact ⟨⟨8, by omega, rfl, congrArg (Value.int .u8) (by show _ = newM m 7 + 128 * b2 (nzC m.cmd); rw [unhide HMM, b2f (unhide HZ)]; omega), by trivial⟩, by simp [intOf]⟩
      -- mask]
end Go.Proofs.Ytkgacehnpdijaaa
