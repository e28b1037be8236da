/- The document's newer body. -/
import Derived.Test.YtkgacehnpdijaaaWireEq
namespace Go.Proofs.Ytkgacehnpdijaaa
set_option linter.unusedVariables false
set_option linter.unusedSimpArgs false
open Go.RowKit Wire

set_option maxHeartbeats 8000000 in
set_option maxRecDepth 20000 in
theorem rnewer_any (m : Ms) (A : Option Addr) (c : Nat) (vA : Option Addr) (vc : Nat) (B : Nat) (w : World) (hok : Mq.Ok ⟨m, A, c, vA, vc⟩ w B) (hB : B ≤ w.heap.size) (hg : Wire.Good m) : Calls Try.prog 31 #[.agg (mcells m A c vA vc)] w (NewB w (newOf m)) := by
  have HM0 := hide ((Mem.start w).new (t := 28) (cs := mcells m A c vA vc) w.heap.size rfl)
  have HV := hide (hok.vers.more hB)
  have HVC := hide (hok.vec.more hB)
  have hr : Rng m := hok.rng
  obtain ⟨g, hgs⟩ : ∃ g, w.heap.size = g := ⟨_, rfl⟩
  have h0 := hg.k0; have h1 := hg.k1
  have hlo := hg.lo; have hhi := hg.hi; have hnv := hg.nv; have hnc := hg.nc
  rw [size_list'] at hlo hhi
  obtain ⟨w1, hw1⟩ : ∃ u, w.alloc (.cells (mcells m A c vA vc) 28) = u := ⟨_, rfl⟩
  rw [hw1] at HM0
  rw [hgs] at HM0
  have HGS := hide hgs
  have HGD := hide hg
  have HRG := hide hr
  have HB0 : Hid (Bld w w1 g (mcells m A c vA vc) (newT m 0) (.slice none 0 0)) := ⟨⟨none, 0, 0, rfl, rfl, own_nil _ _ _ _⟩, unhide HM0⟩
  clear hok hg hr hB
  show Calls _ _ #[.agg #[.int .i64 m.kind, .int .u64 m.id, .int .u64 m.n, .int .u64 m.ts, .string m.lo, .string m.hi, .slice A m.vers.length c, .slice vA m.vec.length vc, .int .i64 m.cmd.kind, .int .i64 m.cmd.dc, .int .i64 m.cmd.shard, .int .i64 m.cmd.node, .int .i64 m.cmd.mode, .string m.cmd.key]] _ _
  go_enter Try.func31, Try.ntmps31
  obtain ⟨f0, f1, f2, f3, f4, f5, f6, f7, f8, f9, f10, f11, f12, f13⟩ := mAt (unhide HB0).mem.blk0
  have hgl := (unhide HB0).mem.blk0.lt
  go_upto_if 13 with fail
  go_cut [3, 4] (fun bits b u => bits = .int .i64 (newM m 1) ∧ Bld w u g (mcells m A c vA vc) (newT m 1) b)
  case first =>
    as_aux_lemma =>
    -- [s0
    have HLN := hide (new7_len (unhide HGD) (unhide HRG) 0 (by omega))
    cases hz : nzI m.id
    · have tz : (m.id != 0) = false := hz
      have HZ := hide hz
      clear hz
      go_wp2_with fail
      go_meet
      case rel => exact ⟨congrArg (Value.int .i64) (by show (0 : Int) = b2 (nzI m.id); rw [b2f (unhide HZ)]), by show Bld _ _ _ _ (newT m 0 ++ nI m.id) _; unfold nI; rw [unhide HZ]; simpa using unhide HB0⟩
    · have tz : (m.id != 0) = true := hz
      have HZ := hide hz
      have HF1 : Hid (∀ u, Calls Try.prog 55 #[.int .u64 m.id] u (NewB u (Num.uv m.id.toNat))) := fun u => ruvar_any m.id u (unhide HRG).id.1 (unhide HRG).id.2
      have HLL : Hid ((Num.uv m.id.toNat).length ≤ 100) := hide (Nat.le_trans (uvl m.id (unhide HRG).id.1 (unhide HRG).id.2) (by omega))
      clear hz
      go_wp2_with (first
        | (go_at_call 55; (with_reducible refine Calls.mono (unhide HF1 _) ?_); go_must ((
           rintro _ u1 ⟨A1, n1, c1, rfl, hn, ho, hb, hc⟩
           have HPUT := hide (rput1_bld (Nat.le_of_eq (unhide HGS)) (unhide HB0) hn ho hb (by have := unhide HLL; have := unhide HLN; omega))
           clear hn ho hb hc)))
        | (go_at_call 51; go_must ((
           refine Calls.mono (unhide HPUT) ?_
           rintro _ w9 ⟨b9, rfl, hbld⟩
           have HB9 := hide hbld
           clear hbld)))
        )
      go_meet
      case rel => exact ⟨congrArg (Value.int .i64) (by show (1 : Int) = b2 (nzI m.id); rw [b2t (unhide HZ)]), by show Bld _ _ _ _ (newT m 0 ++ nI m.id) _; unfold nI; rw [unhide HZ]; exact unhide HB9⟩
    -- s0]
  case rest =>
    clear HB0 f0 f1 f2 f3 f4 f5 f6 f7 f8 f9 f10 f11 f12 f13 hgl
    obtain ⟨rfl, hbd⟩ := hcut
    have HB0 := hide hbd
    clear hbd
    obtain ⟨f0, f1, f2, f3, f4, f5, f6, f7, f8, f9, f10, f11, f12, f13⟩ := mAt (unhide HB0).mem.blk0
    have hgl := (unhide HB0).mem.blk0.lt
    go_upto_if 24 with fail
    go_cut [3, 4] (fun bits b u => bits = .int .i64 (newM m 2) ∧ Bld w u g (mcells m A c vA vc) (newT m 2) b)
    case first =>
      as_aux_lemma =>
      -- [s1
      obtain ⟨A0, n0, c0, rfl, hn0, _⟩ := (unhide HB0).row
      have HN0 := hide hn0
      clear hn0
      have HLN := hide (new7_len (unhide HGD) (unhide HRG) 1 (by omega))
      obtain ⟨M, hM⟩ : ∃ M, newM m 1 = M := ⟨_, rfl⟩
      have hml := newM_lt m 1 (by omega)
      rw [hM] at hml
      simp only [Int.reducePow] at hml
      have HMM := hide hM
      have ew := wrapI (n := M + 2) (by omega) (by omega)
      rw [hM]
      clear hM hml
      cases hz : nzI m.n
      · have tz : (m.n != 0) = false := hz
        have HZ := hide hz
        clear hz
        go_wp2_with fail
        go_meet
        case rel => exact ⟨congrArg (Value.int .i64) (by show _ = newM m 1 + 2 * b2 (nzI m.n); rw [unhide HMM, b2f (unhide HZ)]; omega), by show Bld _ _ _ _ (newT m 1 ++ nI m.n) _; unfold nI; rw [unhide HZ]; simpa using unhide HB0⟩
      · have tz : (m.n != 0) = true := hz
        have HZ := hide hz
        have HF1 : Hid (∀ u, Calls Try.prog 55 #[.int .u64 m.n] u (NewB u (Num.uv m.n.toNat))) := fun u => ruvar_any m.n u (unhide HRG).n.1 (unhide HRG).n.2
        have HLL : Hid ((Num.uv m.n.toNat).length ≤ 100) := hide (Nat.le_trans (uvl m.n (unhide HRG).n.1 (unhide HRG).n.2) (by omega))
        clear hz
        go_wp2_with (first
          | (go_at_call 55; (with_reducible refine Calls.mono (unhide HF1 _) ?_); go_must ((
             rintro _ u1 ⟨A1, n1, c1, rfl, hn, ho, hb, hc⟩
             have HPUT := hide (rput1_bld (Nat.le_of_eq (unhide HGS)) (unhide HB0) hn ho hb (by have := unhide HLL; have := unhide HLN; omega))
             clear hn ho hb hc)))
          | (go_at_call 51; go_must ((
             refine Calls.mono (unhide HPUT) ?_
             rintro _ w9 ⟨b9, rfl, hbld⟩
             have HB9 := hide hbld
             clear hbld)))
          )
        go_meet
        case rel => exact ⟨congrArg (Value.int .i64) (by show _ = newM m 1 + 2 * b2 (nzI m.n); rw [unhide HMM, b2t (unhide HZ)]; omega), by show Bld _ _ _ _ (newT m 1 ++ nI m.n) _; unfold nI; rw [unhide HZ]; exact unhide HB9⟩
      -- s1]
    case rest =>
      clear HB0 f0 f1 f2 f3 f4 f5 f6 f7 f8 f9 f10 f11 f12 f13 hgl
      obtain ⟨rfl, hbd⟩ := hcut
      have HB0 := hide hbd
      clear hbd
      obtain ⟨f0, f1, f2, f3, f4, f5, f6, f7, f8, f9, f10, f11, f12, f13⟩ := mAt (unhide HB0).mem.blk0
      have hgl := (unhide HB0).mem.blk0.lt
      go_upto_if 35 with fail
      go_cut [3, 4] (fun bits b u => bits = .int .i64 (newM m 3) ∧ Bld w u g (mcells m A c vA vc) (newT m 3) b)
      case first =>
        as_aux_lemma =>
        -- [s2
        obtain ⟨A0, n0, c0, rfl, hn0, _⟩ := (unhide HB0).row
        have HN0 := hide hn0
        clear hn0
        have HLN := hide (new7_len (unhide HGD) (unhide HRG) 2 (by omega))
        obtain ⟨M, hM⟩ : ∃ M, newM m 2 = M := ⟨_, rfl⟩
        have hml := newM_lt m 2 (by omega)
        rw [hM] at hml
        simp only [Int.reducePow] at hml
        have HMM := hide hM
        have ew := wrapI (n := M + 4) (by omega) (by omega)
        rw [hM]
        clear hM hml
        cases hz : nzI m.ts
        · have tz : (m.ts != 0) = false := hz
          have HZ := hide hz
          clear hz
          go_wp2_with fail
          go_meet
          case rel => exact ⟨congrArg (Value.int .i64) (by show _ = newM m 2 + 4 * b2 (nzI m.ts); rw [unhide HMM, b2f (unhide HZ)]; omega), by show Bld _ _ _ _ (newT m 2 ++ nI m.ts) _; unfold nI; rw [unhide HZ]; simpa using unhide HB0⟩
        · have tz : (m.ts != 0) = true := hz
          have HZ := hide hz
          have HF1 : Hid (∀ u, Calls Try.prog 55 #[.int .u64 m.ts] u (NewB u (Num.uv m.ts.toNat))) := fun u => ruvar_any m.ts u (unhide HRG).ts.1 (unhide HRG).ts.2
          have HLL : Hid ((Num.uv m.ts.toNat).length ≤ 100) := hide (Nat.le_trans (uvl m.ts (unhide HRG).ts.1 (unhide HRG).ts.2) (by omega))
          clear hz
          go_wp2_with (first
            | (go_at_call 55; (with_reducible refine Calls.mono (unhide HF1 _) ?_); go_must ((
               rintro _ u1 ⟨A1, n1, c1, rfl, hn, ho, hb, hc⟩
               have HPUT := hide (rput1_bld (Nat.le_of_eq (unhide HGS)) (unhide HB0) hn ho hb (by have := unhide HLL; have := unhide HLN; omega))
               clear hn ho hb hc)))
            | (go_at_call 51; go_must ((
               refine Calls.mono (unhide HPUT) ?_
               rintro _ w9 ⟨b9, rfl, hbld⟩
               have HB9 := hide hbld
               clear hbld)))
            )
          go_meet
          case rel => exact ⟨congrArg (Value.int .i64) (by show _ = newM m 2 + 4 * b2 (nzI m.ts); rw [unhide HMM, b2t (unhide HZ)]; omega), by show Bld _ _ _ _ (newT m 2 ++ nI m.ts) _; unfold nI; rw [unhide HZ]; exact unhide HB9⟩
        -- s2]
      case rest =>
        clear HB0 f0 f1 f2 f3 f4 f5 f6 f7 f8 f9 f10 f11 f12 f13 hgl
        obtain ⟨rfl, hbd⟩ := hcut
        have HB0 := hide hbd
        clear hbd
        obtain ⟨f0, f1, f2, f3, f4, f5, f6, f7, f8, f9, f10, f11, f12, f13⟩ := mAt (unhide HB0).mem.blk0
        have hgl := (unhide HB0).mem.blk0.lt
        go_upto_if 46 with fail
        go_cut [3, 4] (fun bits b u => bits = .int .i64 (newM m 4) ∧ Bld w u g (mcells m A c vA vc) (newT m 4) b)
        case first =>
          as_aux_lemma =>
          -- [s3
          obtain ⟨A0, n0, c0, rfl, hn0, _⟩ := (unhide HB0).row
          have HN0 := hide hn0
          clear hn0
          have HLN := hide (new7_len (unhide HGD) (unhide HRG) 3 (by omega))
          obtain ⟨M, hM⟩ : ∃ M, newM m 3 = M := ⟨_, rfl⟩
          have hml := newM_lt m 3 (by omega)
          rw [hM] at hml
          simp only [Int.reducePow] at hml
          have HMM := hide hM
          have ew := wrapI (n := M + 8) (by omega) (by omega)
          rw [hM]
          clear hM hml
          cases hz : nzS m.lo
          · rw [show (!m.lo.toList.isEmpty) = false by rw [strE hz]; rfl]
            have HZ := hide hz
            clear hz
            go_wp2_with fail
            go_meet
            case rel => exact ⟨congrArg (Value.int .i64) (by show _ = newM m 3 + 8 * b2 (nzS m.lo); rw [unhide HMM, b2f (unhide HZ)]; omega), by show Bld _ _ _ _ (newT m 3 ++ nS m.lo) _; unfold nS; rw [unhide HZ]; simpa using unhide HB0⟩
          · rw [show (!m.lo.toList.isEmpty) = true by rw [strN hz]; rfl]
            have HZ := hide hz
            have HF1 : Hid (∀ u, Calls Try.prog 56 #[.string m.lo] u (NewB u (txU m.lo))) := fun u => rtext_any m.lo u (by omega)
            have HLL : Hid ((txU m.lo).length ≤ 100) := hide (Nat.le_trans (txU_len (s := m.lo) (by omega)) (by omega))
            clear hz
            go_wp2_with (first
              | (go_at_call 56; (with_reducible refine Calls.mono (unhide HF1 _) ?_); go_must ((
                 rintro _ u1 ⟨A1, n1, c1, rfl, hn, ho, hb, hc⟩
                 have HPUT := hide (rput1_bld (Nat.le_of_eq (unhide HGS)) (unhide HB0) hn ho hb (by have := unhide HLL; have := unhide HLN; omega))
                 clear hn ho hb hc)))
              | (go_at_call 51; go_must ((
                 refine Calls.mono (unhide HPUT) ?_
                 rintro _ w9 ⟨b9, rfl, hbld⟩
                 have HB9 := hide hbld
                 clear hbld)))
              )
            go_meet
            case rel => exact ⟨congrArg (Value.int .i64) (by show _ = newM m 3 + 8 * b2 (nzS m.lo); rw [unhide HMM, b2t (unhide HZ)]; omega), by show Bld _ _ _ _ (newT m 3 ++ nS m.lo) _; unfold nS; rw [unhide HZ]; exact unhide HB9⟩
          -- s3]
        case rest =>
          clear HB0 f0 f1 f2 f3 f4 f5 f6 f7 f8 f9 f10 f11 f12 f13 hgl
          obtain ⟨rfl, hbd⟩ := hcut
          have HB0 := hide hbd
          clear hbd
          obtain ⟨f0, f1, f2, f3, f4, f5, f6, f7, f8, f9, f10, f11, f12, f13⟩ := mAt (unhide HB0).mem.blk0
          have hgl := (unhide HB0).mem.blk0.lt
          go_upto_if 57 with fail
          go_cut [3, 4] (fun bits b u => bits = .int .i64 (newM m 5) ∧ Bld w u g (mcells m A c vA vc) (newT m 5) b)
          case first =>
            as_aux_lemma =>
            -- [s4
            obtain ⟨A0, n0, c0, rfl, hn0, _⟩ := (unhide HB0).row
            have HN0 := hide hn0
            clear hn0
            have HLN := hide (new7_len (unhide HGD) (unhide HRG) 4 (by omega))
            obtain ⟨M, hM⟩ : ∃ M, newM m 4 = M := ⟨_, rfl⟩
            have hml := newM_lt m 4 (by omega)
            rw [hM] at hml
            simp only [Int.reducePow] at hml
            have HMM := hide hM
            have ew := wrapI (n := M + 16) (by omega) (by omega)
            rw [hM]
            clear hM hml
            cases hz : nzS m.hi
            · rw [show (!m.hi.toList.isEmpty) = false by rw [strE hz]; rfl]
              have HZ := hide hz
              clear hz
              go_wp2_with fail
              go_meet
              case rel => exact ⟨congrArg (Value.int .i64) (by show _ = newM m 4 + 16 * b2 (nzS m.hi); rw [unhide HMM, b2f (unhide HZ)]; omega), by show Bld _ _ _ _ (newT m 4 ++ nS m.hi) _; unfold nS; rw [unhide HZ]; simpa using unhide HB0⟩
            · rw [show (!m.hi.toList.isEmpty) = true by rw [strN hz]; rfl]
              have HZ := hide hz
              have HF1 : Hid (∀ u, Calls Try.prog 56 #[.string m.hi] u (NewB u (txU m.hi))) := fun u => rtext_any m.hi u (by omega)
              have HLL : Hid ((txU m.hi).length ≤ 100) := hide (Nat.le_trans (txU_len (s := m.hi) (by omega)) (by omega))
              clear hz
              go_wp2_with (first
                | (go_at_call 56; (with_reducible refine Calls.mono (unhide HF1 _) ?_); go_must ((
                   rintro _ u1 ⟨A1, n1, c1, rfl, hn, ho, hb, hc⟩
                   have HPUT := hide (rput1_bld (Nat.le_of_eq (unhide HGS)) (unhide HB0) hn ho hb (by have := unhide HLL; have := unhide HLN; omega))
                   clear hn ho hb hc)))
                | (go_at_call 51; go_must ((
                   refine Calls.mono (unhide HPUT) ?_
                   rintro _ w9 ⟨b9, rfl, hbld⟩
                   have HB9 := hide hbld
                   clear hbld)))
                )
              go_meet
              case rel => exact ⟨congrArg (Value.int .i64) (by show _ = newM m 4 + 16 * b2 (nzS m.hi); rw [unhide HMM, b2t (unhide HZ)]; omega), by show Bld _ _ _ _ (newT m 4 ++ nS m.hi) _; unfold nS; rw [unhide HZ]; exact unhide HB9⟩
            -- s4]
          case rest =>
            clear HB0 f0 f1 f2 f3 f4 f5 f6 f7 f8 f9 f10 f11 f12 f13 hgl
            obtain ⟨rfl, hbd⟩ := hcut
            have HB0 := hide hbd
            clear hbd
            obtain ⟨f0, f1, f2, f3, f4, f5, f6, f7, f8, f9, f10, f11, f12, f13⟩ := mAt (unhide HB0).mem.blk0
            have hgl := (unhide HB0).mem.blk0.lt
            have e2 := wrap64 (n := (m.vers.length : Int)) (by omega) (by omega)
            go_upto_if 69 with fail
            go_cut [3, 4] (fun bits b u => bits = .int .i64 (newM m 6) ∧ Bld w u g (mcells m A c vA vc) (newT m 6) b)
            case first =>
              -- [s5
              obtain ⟨A0, n0, c0, rfl, hn0, _⟩ := (unhide HB0).row
              have HN0 := hide hn0
              clear hn0
              have HLN := hide (new7_len (unhide HGD) (unhide HRG) 5 (by omega))
              obtain ⟨M, hM⟩ : ∃ M, newM m 5 = M := ⟨_, rfl⟩
              have hml := newM_lt m 5 (by omega)
              rw [hM] at hml
              simp only [Int.reducePow] at hml
              have HMM := hide hM
              have ew := wrapI (n := M + 32) (by omega) (by omega)
              rw [hM]
              clear hM hml
              cases hz : nzL m.vers
              · rw [show decide (0 < m.vers.length) = false from lenF hz]
                have HZ := hide hz
                clear hz
                go_wp2_with fail
                go_meet
                case rel => exact ⟨congrArg (Value.int .i64) (by show _ = newM m 5 + 32 * b2 (nzL m.vers); rw [unhide HMM, b2f (unhide HZ)]; omega), by show Bld _ _ _ _ (newT m 5 ++ nV m.vers) _; unfold nV; rw [unhide HZ]; simpa using unhide HB0⟩
              · rw [show decide (0 < m.vers.length) = true from lenT hz]
                have HZ := hide hz
                have HF1 : Hid (∀ u, Calls Try.prog 55 #[.int .u64 (m.vers.length : Int)] u (NewB u (Num.uv m.vers.length))) := fun u => ruvar_any (m.vers.length : Int) u (by omega) (by omega)
                have HLL : Hid ((Num.uv m.vers.length).length ≤ 100) := hide (Nat.le_trans (Num.uv_len64 (by omega)) (by omega))
                clear hz
                go_wp2_with (first
                  | (go_at_call 55; (with_reducible refine Calls.mono (unhide HF1 _) ?_); go_must ((
                     rintro _ u1 ⟨A1, n1, c1, rfl, hn, ho, hb, hc⟩
                     have HPUT := hide (rput1_bld (Nat.le_of_eq (unhide HGS)) (unhide HB0) hn ho hb (by have := unhide HLL; have := unhide HLN; omega))
                     clear hn ho hb hc)))
                  | (go_at_call 51; go_must ((
                     refine Calls.mono (unhide HPUT) ?_
                     rintro _ w9 ⟨b9, rfl, hbld⟩
                     have HB9 := hide hbld
                     clear hbld)))
                  )
                have HS1 : Hid (Bld w w9 g (mcells m A c vA vc) (newT m 5 ++ (Num.uv m.vers.length ++ encN 0 (m.vers.take 0))) b9) := by show Bld _ _ _ _ _ _; simpa [encN] using unhide HB9
                clear f0 f1 f2 f3 f4 f5 f6 f7 f8 f9 f10 f11 f12 f13 hgl
                go_loopw [4, 5, 6] (fun b last i wr => ∃ k : Nat, k ≤ m.vers.length ∧ i = .int .i64 k ∧ last = .int .u64 (lastOr 0 (m.vers.take k)) ∧ Bld w wr g (mcells m A c vA vc) (newT m 5 ++ (Num.uv m.vers.length ++ encN 0 (m.vers.take k))) b) (fun _ _ i _ => m.vers.length - (intOf i).toNat)
                case atStart => exact ⟨0, by omega, rfl, rfl, unhide HS1⟩
                case round =>
                  obtain ⟨k, hk, rfl, rfl, hbd⟩ := hrel
                  clear HS1 HB9 HB0 HPUT
                  have HB0 := hide hbd
                  clear hbd
                  obtain ⟨A0, n0, c0, rfl, hn0, _⟩ := (unhide HB0).row
                  have HN0 := hide hn0
                  clear hn0
                  have f6 : wr.cell? ⟨g, 6, none⟩ = some (.slice A m.vers.length c) := (unhide HB0).mem.blk0.cell 6
                  have hgl := (unhide HB0).mem.blk0.lt
                  by_cases hlt : k < m.vers.length
                  · obtain ⟨v, hv⟩ : ∃ v, m.vers[k]? = some v := ⟨m.vers[k], List.getElem?_eq_getElem hlt⟩
                    obtain ⟨ad, hA, _, a0, a1, a2, a3, a4, a5⟩ := verAt ((unhide HV).below (unhide HB0).mem.below) hv
                    subst hA
                    have gv : GoodV v := (unhide HGD).vers v (List.mem_of_getElem? hv)
                    have hkey := gv.key; have hval := gv.val
                    rw [size_list'] at hkey hval
                    have d0 := gv.d0; have d1 := gv.d1; have t0 := gv.t0; have t1 := gv.t1
                    obtain ⟨L0, hL0⟩ : ∃ L0, lastOr 0 (m.vers.take k) = L0 := ⟨_, rfl⟩
                    obtain ⟨D, hD⟩ : ∃ D, (v.ts - L0) % 18446744073709551616 = D := ⟨_, rfl⟩
                    have hD0 : 0 ≤ D ∧ D < 18446744073709551616 := by omega
                    have ed : IntKind.u64.wrap (v.ts - L0) = D := by rw [← hD]; simp [IntKind.wrap, IntKind.signed, IntKind.bits]
                    have HF1 : Hid (∀ u, Calls Try.prog 56 #[.string v.key] u (NewB u (txU v.key))) := fun u => rtext_any v.key u (by omega)
                    have HF2 : Hid (∀ u, Calls Try.prog 56 #[.string v.val] u (NewB u (txU v.val))) := fun u => rtext_any v.val u (by omega)
                    have HF3 : Hid (∀ u, Calls Try.prog 54 #[.agg #[.string v.key, .string v.val, .bool v.gone, .int .u64 v.ts, .int .i64 v.dc, .int .i64 v.tx]] u (NewB u (Num.fx 1 (if v.gone then 1 else 0)))) := fun u => by
                      have h := rgone_any v u
                      have e : ([if v.gone then 1 else 0] : List UInt8) = Num.fx 1 (if v.gone then 1 else 0) := by cases v.gone <;> rfl
                      rw [e] at h
                      exact h
                    have HF4 : Hid (∀ u, Calls Try.prog 55 #[.int .u64 D] u (NewB u (Num.uv D.toNat))) := fun u => ruvar_any D u hD0.1 hD0.2
                    have HF5 : Hid (∀ u, Calls Try.prog 55 #[.int .u64 v.dc] u (NewB u (Num.uv v.dc.toNat))) := fun u => ruvar_any v.dc u (by omega) (by omega)
                    have HF6 : Hid (∀ u, Calls Try.prog 55 #[.int .u64 v.tx] u (NewB u (Num.uv v.tx.toNat))) := fun u => ruvar_any v.tx u (by omega) (by omega)
                    have e3 := wrap64 (n := v.dc) (by omega) (by omega)
                    have e4 := wrap64 (n := v.tx) (by omega) (by omega)
                    have HVN : Hid (verN L0 v = txU v.key ++ (txU v.val ++ (Num.fx 1 (if v.gone then 1 else 0) ++ (Num.uv D.toNat ++ (Num.uv v.dc.toNat ++ Num.uv v.tx.toNat))))) := hide (by show _ = _; rw [← hD]; rfl)
                    have HLV := hide (verN_len gv L0)
                    have HLE := hide (Nat.le_trans (encN_len (m.vers.take k) 0 fun x hx => (unhide HGD).vers x (List.mem_of_mem_take hx)) (Nat.mul_le_mul_right 200 (show (m.vers.take k).length ≤ 4096 by rw [List.length_take]; omega)))
                    obtain ⟨hs1, hs2⟩ := encN_succ hv
                    rw [hL0] at hs1
                    rw [hL0]
                    have HSU := hide hs1
                    have HSL := hide hs2
                    obtain ⟨PRE, hPRE⟩ : ∃ P, newT m 5 ++ (Num.uv m.vers.length ++ encN 0 (m.vers.take k)) = P := ⟨_, rfl⟩
                    rw [hPRE] at HB0 HN0
                    have HPL : Hid (PRE.length ≤ 1640000) := hide (by rw [← hPRE]; have h1 := unhide HLN; have h2 := unhide HLL; have h3 := unhide HLE; simp only [List.length_append]; omega)
                    have HPRE := hide hPRE
                    obtain ⟨h, hh⟩ : ∃ h, wr.heap.size = h := ⟨_, rfl⟩
                    obtain ⟨w4, hw4⟩ : ∃ u, wr.alloc (.cells (vc6 v) 49) = u := ⟨_, rfl⟩
                    have HM4 : Hid (Bld w w4.drew g (mcells m (some ad) c vA vc) PRE (.slice A0 n0 c0)) := hide (by rw [← hw4]; exact ((unhide HB0).go (below_made wr _)).go ((Below.refl _ _).drew))
                    have HBLV : Hid (Blk w4.drew h 49 (vc6 v)) := hide (by rw [← hw4, ← hh]; exact Blk.new _ _ _)
                    have HLT : Hid (∀ k, (Value.slice A0 n0 c0).ownBlock = some k → k < h) := hide (by rw [← hh]; exact (unhide HB0).lt)
                    clear hv gv hD hD0 hL0 hs1 hs2 hPRE
                    go_upto_region 26 with fail
                    clear hh hw4 a0 a1 a2 a3 a4 a5 f6 hgl
                    have HG : Hid (Below w4.drew.heap.size w4.drew w4.drew) := Below.refl _ _
                    have fS : VS v h w4.drew := vS (unhide HBLV)
                    go_region_held3 (fun u => u.cell? ⟨h, 0, none⟩ = some (.string v.key) ∧ u.cell? ⟨h, 1, none⟩ = some (.string v.val) ∧ u.cell? ⟨h, 2, none⟩ = some (.bool v.gone) ∧ u.cell? ⟨h, 3, none⟩ = some (.int .u64 v.ts) ∧ u.cell? ⟨h, 4, none⟩ = some (.int .i64 v.dc) ∧ u.cell? ⟨h, 5, none⟩ = some (.int .i64 v.tx)) (first | assumption | exact fS | exact fS1 | exact fS2 | exact fS3 | exact fS4 | exact fS5 | exact fS6 | exact fS9 | exact vS (((unhide HBLV).below (unhide HG) (unhide HBLV).lt).alloc _) | go_keep)
                      (first
                      | (go_at_call 56; (with_reducible refine Calls.mono (unhide HF1 _) ?_); go_must ((
                         rintro _ u1 ⟨A1, n1, c1, rfl, hn, ho, hb, hc⟩
                         have HP1 := hide ((ptr_own hn ho).lo' (unhide HG).size)
                         (with_reducible first | replace HG := hide (gT (unhide HG) hb) | replace HG := hide (gTA (unhide HG) hb))
                         (try (with_reducible first | replace HP1 := hide ((unhide HP1).go hb) | replace HP1 := hide ((unhide HP1).goA hb)))
                         (try (with_reducible first | replace HP2 := hide ((unhide HP2).go hb) | replace HP2 := hide ((unhide HP2).goA hb)))
                         (try (with_reducible first | replace HP3 := hide ((unhide HP3).go hb) | replace HP3 := hide ((unhide HP3).goA hb)))
                         (try (with_reducible first | replace HP4 := hide ((unhide HP4).go hb) | replace HP4 := hide ((unhide HP4).goA hb)))
                         (try (with_reducible first | replace HP5 := hide ((unhide HP5).go hb) | replace HP5 := hide ((unhide HP5).goA hb)))
                         have hk := (unhide HBLV).below (unhide HG) (unhide HBLV).lt
                         have fS1 := vS hk
                         clear hn ho hb hc hk)))
                      | (go_at_call 56; (with_reducible refine Calls.mono (unhide HF2 _) ?_); go_must ((
                         rintro _ u2 ⟨A2, n2, c2, rfl, hn, ho, hb, hc⟩
                         have HP2 := hide ((ptr_own hn ho).lo' (unhide HG).size)
                         (with_reducible first | replace HG := hide (gT (unhide HG) hb) | replace HG := hide (gTA (unhide HG) hb))
                         (try (with_reducible first | replace HP1 := hide ((unhide HP1).go hb) | replace HP1 := hide ((unhide HP1).goA hb)))
                         (try (with_reducible first | replace HP2 := hide ((unhide HP2).go hb) | replace HP2 := hide ((unhide HP2).goA hb)))
                         (try (with_reducible first | replace HP3 := hide ((unhide HP3).go hb) | replace HP3 := hide ((unhide HP3).goA hb)))
                         (try (with_reducible first | replace HP4 := hide ((unhide HP4).go hb) | replace HP4 := hide ((unhide HP4).goA hb)))
                         (try (with_reducible first | replace HP5 := hide ((unhide HP5).go hb) | replace HP5 := hide ((unhide HP5).goA hb)))
                         have hk := (unhide HBLV).below (unhide HG) (unhide HBLV).lt
                         have fS2 := vS hk
                         clear hn ho hb hc hk)))
                      | (go_at_call 54; (with_reducible refine Calls.mono (unhide HF3 _) ?_); go_must ((
                         rintro _ u3 ⟨A3, n3, c3, rfl, hn, ho, hb, hc⟩
                         have HP3 := hide ((ptr_own hn ho).lo' (unhide HG).size)
                         (with_reducible first | replace HG := hide (gT (unhide HG) hb) | replace HG := hide (gTA (unhide HG) hb))
                         (try (with_reducible first | replace HP1 := hide ((unhide HP1).go hb) | replace HP1 := hide ((unhide HP1).goA hb)))
                         (try (with_reducible first | replace HP2 := hide ((unhide HP2).go hb) | replace HP2 := hide ((unhide HP2).goA hb)))
                         (try (with_reducible first | replace HP3 := hide ((unhide HP3).go hb) | replace HP3 := hide ((unhide HP3).goA hb)))
                         (try (with_reducible first | replace HP4 := hide ((unhide HP4).go hb) | replace HP4 := hide ((unhide HP4).goA hb)))
                         (try (with_reducible first | replace HP5 := hide ((unhide HP5).go hb) | replace HP5 := hide ((unhide HP5).goA hb)))
                         have hk := (unhide HBLV).below (unhide HG) (unhide HBLV).lt
                         have fS3 := vS hk
                         clear hn ho hb hc hk)))
                      | (go_at_call 55; (with_reducible refine Calls.mono (unhide HF4 _) ?_); go_must ((
                         rintro _ u4 ⟨A4, n4, c4, rfl, hn, ho, hb, hc⟩
                         have HP4 := hide ((ptr_own hn ho).lo' (unhide HG).size)
                         (with_reducible first | replace HG := hide (gT (unhide HG) hb) | replace HG := hide (gTA (unhide HG) hb))
                         (try (with_reducible first | replace HP1 := hide ((unhide HP1).go hb) | replace HP1 := hide ((unhide HP1).goA hb)))
                         (try (with_reducible first | replace HP2 := hide ((unhide HP2).go hb) | replace HP2 := hide ((unhide HP2).goA hb)))
                         (try (with_reducible first | replace HP3 := hide ((unhide HP3).go hb) | replace HP3 := hide ((unhide HP3).goA hb)))
                         (try (with_reducible first | replace HP4 := hide ((unhide HP4).go hb) | replace HP4 := hide ((unhide HP4).goA hb)))
                         (try (with_reducible first | replace HP5 := hide ((unhide HP5).go hb) | replace HP5 := hide ((unhide HP5).goA hb)))
                         have hk := (unhide HBLV).below (unhide HG) (unhide HBLV).lt
                         have fS4 := vS hk
                         clear hn ho hb hc hk)))
                      | (go_at_call 55; (with_reducible refine Calls.mono (unhide HF5 _) ?_); go_must ((
                         rintro _ u5 ⟨A5, n5, c5, rfl, hn, ho, hb, hc⟩
                         have HP5 := hide ((ptr_own hn ho).lo' (unhide HG).size)
                         (with_reducible first | replace HG := hide (gT (unhide HG) hb) | replace HG := hide (gTA (unhide HG) hb))
                         (try (with_reducible first | replace HP1 := hide ((unhide HP1).go hb) | replace HP1 := hide ((unhide HP1).goA hb)))
                         (try (with_reducible first | replace HP2 := hide ((unhide HP2).go hb) | replace HP2 := hide ((unhide HP2).goA hb)))
                         (try (with_reducible first | replace HP3 := hide ((unhide HP3).go hb) | replace HP3 := hide ((unhide HP3).goA hb)))
                         (try (with_reducible first | replace HP4 := hide ((unhide HP4).go hb) | replace HP4 := hide ((unhide HP4).goA hb)))
                         (try (with_reducible first | replace HP5 := hide ((unhide HP5).go hb) | replace HP5 := hide ((unhide HP5).goA hb)))
                         have hk := (unhide HBLV).below (unhide HG) (unhide HBLV).lt
                         have fS5 := vS hk
                         clear hn ho hb hc hk)))
                      | (go_at_call 55; (with_reducible refine Calls.mono (unhide HF6 _) ?_); go_must ((
                         rintro _ u6 ⟨A6, n6, c6, rfl, hn, ho, hb, hc⟩
                         have HP6 := hide ((ptr_own hn ho).lo' (unhide HG).size)
                         (with_reducible first | replace HG := hide (gT (unhide HG) hb) | replace HG := hide (gTA (unhide HG) hb))
                         (try (with_reducible first | replace HP1 := hide ((unhide HP1).go hb) | replace HP1 := hide ((unhide HP1).goA hb)))
                         (try (with_reducible first | replace HP2 := hide ((unhide HP2).go hb) | replace HP2 := hide ((unhide HP2).goA hb)))
                         (try (with_reducible first | replace HP3 := hide ((unhide HP3).go hb) | replace HP3 := hide ((unhide HP3).goA hb)))
                         (try (with_reducible first | replace HP4 := hide ((unhide HP4).go hb) | replace HP4 := hide ((unhide HP4).goA hb)))
                         (try (with_reducible first | replace HP5 := hide ((unhide HP5).go hb) | replace HP5 := hide ((unhide HP5).goA hb)))
                         have hk := (unhide HBLV).below (unhide HG) (unhide HBLV).lt
                         have fS6 := vS hk
                         clear hn ho hb hc hk)))
                      | (go_at_call 51; go_must ((
                         have hbx := (unhide HM4).go (unhide HG)
                         have hgl := hbx.mem.blk0.lt
                         refine Calls.mono (rput_newg PRE A0 n0 c0 [⟨_, A1, n1, c1⟩, ⟨_, A2, n2, c2⟩, ⟨_, A3, n3, c3⟩, ⟨_, A4, n4, c4⟩, ⟨_, A5, n5, c5⟩, ⟨_, A6, n6, c6⟩] (g + 1) _ _ rfl hbx.own.1 hbx.own.2 (allC ((unhide HP1).at_ fun k hk => .inl ((unhide HM4).lt k hk)) (allC ((unhide HP2).at_ fun k hk => .inl ((unhide HM4).lt k hk)) (allC ((unhide HP3).at_ fun k hk => .inl ((unhide HM4).lt k hk)) (allC ((unhide HP4).at_ fun k hk => .inl ((unhide HM4).lt k hk)) (allC ((unhide HP5).at_ fun k hk => .inl ((unhide HM4).lt k hk)) (allC ((unhide HP6).at_ fun k hk => .inl ((unhide HM4).lt k hk)) all0)))))) hgl (by have h1 := unhide HLV; have h2 := unhide HPL; have h3 := unhide HN0; have h4 := unhide HVN; rw [h4] at h1; simp only [cat, List.flatMap_cons, List.flatMap_nil, List.append_nil] at h1 ⊢; omega) (by simp)) ?_
                         rintro _ w9 hres
                         obtain ⟨b9, rfl, hbld⟩ := putBld (Nat.le_of_eq (unhide HGS)) hbx.mem hbx.own.2 hres
                         have hk9 := hres.blk ((unhide HBLV).below (unhide HG) (unhide HBLV).lt) (unhide HLT)
                         have fS9 : VS v h w9 := vS hk9
                         have hgh := hk9.lt
                         have HB9 := hide hbld
                         clear hgl hbld hres hbx hk9)))
                      )
                    obtain ⟨s0, s1, s2, s3, s4, s5⟩ := fS9
                    go_wp2_with fail
                    have HBF : Bld w w9 g (mcells m (some ad) c vA vc) (newT m 5 ++ (Num.uv m.vers.length ++ encN 0 (m.vers.take (k + 1)))) b9 := by
                      have h1 := unhide HB9
                      simp only [cat, List.flatMap_cons, List.flatMap_nil, List.append_nil] at h1
                      rw [unhide HSU, unhide HVN, ← List.append_assoc (Num.uv m.vers.length), ← List.append_assoc (newT m 5), unhide HPRE]
                      exact h1
                    exact ⟨⟨k + 1, by omega, by go_num, by rw [unhide HSL], HBF⟩, by simp [intOf]; omega⟩
                  · obtain rfl : k = m.vers.length := by omega
                    go_wp2_with fail
                    go_meet
                    case rel => exact ⟨congrArg (Value.int .i64) (by show _ = newM m 5 + 32 * b2 (nzL m.vers); rw [unhide HMM, b2t (unhide HZ)]; omega), by show Bld _ _ _ _ (newT m 5 ++ nV m.vers) _; unfold nV; rw [unhide HZ]; have h := unhide HB0; rw [List.take_length] at h; exact h⟩
              -- s5]
            case rest =>
              clear HB0 f0 f1 f2 f3 f4 f5 f6 f7 f8 f9 f10 f11 f12 f13 hgl
              obtain ⟨rfl, hbd⟩ := hcut
              have HB0 := hide hbd
              clear hbd
              obtain ⟨f0, f1, f2, f3, f4, f5, f6, f7, f8, f9, f10, f11, f12, f13⟩ := mAt (unhide HB0).mem.blk0
              have hgl := (unhide HB0).mem.blk0.lt
              have e2 := wrap64 (n := (m.vec.length : Int)) (by omega) (by omega)
              go_upto_if 121 with fail
              go_cut [3, 4] (fun bits b u => bits = .int .i64 (newM m 7) ∧ Bld w u g (mcells m A c vA vc) (newT m 7) b)
              case first =>
                as_aux_lemma =>
                -- [s6
                obtain ⟨A0, n0, c0, rfl, hn0, _⟩ := (unhide HB0).row
                have HN0 := hide hn0
                clear hn0
                have HLN := hide (new7_len (unhide HGD) (unhide HRG) 6 (by omega))
                obtain ⟨M, hM⟩ : ∃ M, newM m 6 = M := ⟨_, rfl⟩
                have hml := newM_lt m 6 (by omega)
                rw [hM] at hml
                simp only [Int.reducePow] at hml
                have HMM := hide hM
                have ew := wrapI (n := M + 64) (by omega) (by omega)
                rw [hM]
                clear hM hml
                cases hz : nzL m.vec
                · rw [show decide (0 < m.vec.length) = false from lenF hz]
                  have HZ := hide hz
                  clear hz
                  go_wp2_with fail
                  go_meet
                  case rel => exact ⟨congrArg (Value.int .i64) (by show _ = newM m 6 + 64 * b2 (nzL m.vec); rw [unhide HMM, b2f (unhide HZ)]; omega), by show Bld _ _ _ _ (newT m 6 ++ nC m.vec) _; unfold nC; rw [unhide HZ]; simpa using unhide HB0⟩
                · rw [show decide (0 < m.vec.length) = true from lenT hz]
                  have HZ := hide hz
                  have HF1 : Hid (∀ u, Calls Try.prog 55 #[.int .u64 (m.vec.length : Int)] u (NewB u (Num.uv m.vec.length))) := fun u => ruvar_any (m.vec.length : Int) u (by omega) (by omega)
                  have HLL : Hid ((Num.uv m.vec.length).length ≤ 100) := hide (Nat.le_trans (Num.uv_len64 (by omega)) (by omega))
                  clear hz
                  go_wp2_with (first
                    | (go_at_call 55; (with_reducible refine Calls.mono (unhide HF1 _) ?_); go_must ((
                       rintro _ u1 ⟨A1, n1, c1, rfl, hn, ho, hb, hc⟩
                       have HPUT := hide (rput1_bld (Nat.le_of_eq (unhide HGS)) (unhide HB0) hn ho hb (by have := unhide HLL; have := unhide HLN; omega))
                       clear hn ho hb hc)))
                    | (go_at_call 51; go_must ((
                       refine Calls.mono (unhide HPUT) ?_
                       rintro _ w9 ⟨b9, rfl, hbld⟩
                       have HB9 := hide hbld
                       clear hbld)))
                    )
                  have HS1 : Hid (Bld w w9 g (mcells m A c vA vc) (newT m 6 ++ (Num.uv m.vec.length ++ (m.vec.take 0).flatMap fun x => Num.uv x.toNat)) b9) := by show Bld _ _ _ _ _ _; simpa using unhide HB9
                  clear f0 f1 f2 f3 f4 f5 f6 f7 f8 f9 f10 f11 f12 f13 hgl
                  go_loopw [4, 8] (fun b i wr => ∃ k : Nat, k ≤ m.vec.length ∧ i = .int .i64 k ∧ Bld w wr g (mcells m A c vA vc) (newT m 6 ++ (Num.uv m.vec.length ++ (m.vec.take k).flatMap fun x => Num.uv x.toNat)) b) (fun _ i _ => m.vec.length - (intOf i).toNat)
                  case atStart => exact ⟨0, by omega, rfl, unhide HS1⟩
                  case round =>
                    obtain ⟨k, hk, rfl, hbd⟩ := hrel
                    clear HS1 HB9 HB0 HPUT
                    have HB0 := hide hbd
                    clear hbd
                    obtain ⟨A0, n0, c0, rfl, hn0, _⟩ := (unhide HB0).row
                    have HN0 := hide hn0
                    clear hn0
                    have f7 : wr.cell? ⟨g, 7, none⟩ = some (.slice vA m.vec.length vc) := (unhide HB0).mem.blk0.cell 7
                    have hgl := (unhide HB0).mem.blk0.lt
                    by_cases hlt : k < m.vec.length
                    · obtain ⟨x, hx⟩ : ∃ x, m.vec[k]? = some x := ⟨m.vec[k], List.getElem?_eq_getElem hlt⟩
                      obtain ⟨ad, hA, _, hcs⟩ := ((unhide HVC).below (unhide HB0).mem.below) (by rw [List.length_map]; omega)
                      subst hA
                      have a0 := hcs k (.int .u64 x) (by rw [List.getElem?_map, hx]; rfl)
                      have rx := (unhide HRG).vec x (List.mem_of_getElem? hx)
                      have HF2 : Hid (∀ u, Calls Try.prog 55 #[.int .u64 x] u (NewB u (Num.uv x.toNat))) := fun u => ruvar_any x u rx.1 rx.2
                      have HLX := hide (uvl x rx.1 rx.2)
                      have HLE := hide (vecs_len (l := m.vec.take k) fun y hy => (unhide HRG).vec y (List.mem_of_mem_take hy))
                      have HTK := hide (List.length_take_le k m.vec)
                      have HSU := hide (flat_succ (fun x : Int => Num.uv x.toNat) hx)
                      obtain ⟨PRE, hPRE⟩ : ∃ P, newT m 6 ++ (Num.uv m.vec.length ++ (m.vec.take k).flatMap fun x => Num.uv x.toNat) = P := ⟨_, rfl⟩
                      rw [hPRE] at HB0 HN0
                      have HPL : Hid (PRE.length ≤ 1640000) := hide (by rw [← hPRE]; have h1 := unhide HLN; have h2 := unhide HLL; have h3 := unhide HLE; have h4 := unhide HTK; simp only [List.length_append]; omega)
                      have HPRE := hide hPRE
                      clear hcs hx rx hPRE HLL HLN
                      have HLL := HLX
                      have HLN := HPL
                      go_wp2_with (first
                        | (go_at_call 55; (with_reducible refine Calls.mono (unhide HF2 _) ?_); go_must ((
                           rintro _ u1 ⟨A1, n1, c1, rfl, hn, ho, hb, hc⟩
                           have HPUT := hide (rput1_bld (Nat.le_of_eq (unhide HGS)) (unhide HB0) hn ho hb (by have := unhide HLL; have := unhide HLN; omega))
                           clear hn ho hb hc)))
                        | (go_at_call 51; go_must ((
                           refine Calls.mono (unhide HPUT) ?_
                           rintro _ w9 ⟨b9, rfl, hbld⟩
                           have HB9 := hide hbld
                           clear hbld)))
                        )
                      exact ⟨⟨k + 1, by omega, by go_num, by rw [unhide HSU, ← List.append_assoc (Num.uv m.vec.length), ← List.append_assoc (newT m 6), unhide HPRE]; exact unhide HB9⟩, by simp [intOf]; omega⟩
                    · obtain rfl : k = m.vec.length := by omega
                      go_wp2_with fail
                      go_meet
                      case rel => exact ⟨congrArg (Value.int .i64) (by show _ = newM m 6 + 64 * b2 (nzL m.vec); rw [unhide HMM, b2t (unhide HZ)]; omega), by show Bld _ _ _ _ (newT m 6 ++ nC m.vec) _; unfold nC; rw [unhide HZ]; have h := unhide HB0; rw [List.take_length] at h; exact h⟩
                -- s6]
              case rest =>
                clear HB0 f0 f1 f2 f3 f4 f5 f6 f7 f8 f9 f10 f11 f12 f13 hgl
                obtain ⟨rfl, hbd⟩ := hcut
                have HB0 := hide hbd
                clear hbd
                obtain ⟨r, hrq, heq⟩ := eql_cmd m.cmd Wire.cmd0
                have heq2 : ∀ u : World, (Op.equalIn 10000 26 (.agg #[.int .i64 m.cmd.kind, .int .i64 m.cmd.dc, .int .i64 m.cmd.shard, .int .i64 m.cmd.node, .int .i64 m.cmd.mode, .string m.cmd.key]) (.agg #[.int .i64 0, .int .i64 0, .int .i64 0, .int .i64 0, .int .i64 0, .string ⟨#[]⟩])).run Try.prog u = .ok r u := heq
                have hnz : nzC m.cmd = !r := by
                  unfold nzC
                  cases r with
                  | true => simp [hrq.1 rfl]
                  | false => simp; intro h; have := hrq.2 h; cases this
                have HNZ := hide hnz
                clear heq hrq hnz
                obtain ⟨f0, f1, f2, f3, f4, f5, f6, f7, f8, f9, f10, f11, f12, f13⟩ := mAt (unhide HB0).mem.blk0
                have hgl := (unhide HB0).mem.blk0.lt
                go_upto_if 151 with fail
                go_cut [3, 4] (fun bits b u => bits = .int .i64 (newM m 8) ∧ Bld w u g (mcells m A c vA vc) (newT m 8) b)
                case first =>
                  as_aux_lemma =>
                  -- [s7
                  obtain ⟨A0, n0, c0, rfl, hn0, _⟩ := (unhide HB0).row
                  have HN0 := hide hn0
                  clear hn0
                  clear heq2
                  have HLN := hide (new7_len (unhide HGD) (unhide HRG) 7 (by omega))
                  obtain ⟨M, hM⟩ : ∃ M, newM m 7 = M := ⟨_, rfl⟩
                  have hml := newM_lt m 7 (by omega)
                  rw [hM] at hml
                  simp only [Int.reducePow] at hml
                  have HMM := hide hM
                  have ew := wrapI (n := M + 128) (by omega) (by omega)
                  rw [hM]
                  clear hM hml
                  cases r
                  · have HZ : Hid (nzC m.cmd = true) := unhide HNZ
                    have HNC : Hid (∀ u, Calls Try.prog 34 #[.agg #[.int .i64 m.cmd.kind, .int .i64 m.cmd.dc, .int .i64 m.cmd.shard, .int .i64 m.cmd.node, .int .i64 m.cmd.mode, .string m.cmd.key]] u fun e w' => ∃ g, e = .returned (.slice (some ⟨g, 0, none⟩) 5 5) ∧ Blk w' g 3 (numCells m.cmd) ∧ Below u.heap.size u w' ∧ u.heap.size ≤ g) := fun u => rnums_new m.cmd u
                    go_wp2_with (go_at_call 34; refine (unhide HNC _).mono ?_; rintro _ w5 ⟨gg, rfl, hblk, hb5, hge⟩
                                 have HM5 := hide ((unhide HB0).go hb5)
                                 have HNB : Hid (Blk w5 gg 3 (numCells m.cmd) ∧ ∀ k, (Value.slice A0 n0 c0).ownBlock = some k → k ≠ gg) := hide ⟨hblk, fun k hk => by have := (unhide HB0).lt k hk; omega⟩
                                 clear hb5 hblk hge)
                    have HS1 : Hid (BldN w w5 g gg (mcells m A c vA vc) (numCells m.cmd) (newT m 7 ++ (m.cmd.nums.take 0).flatMap fun x => Num.uv x.toNat) (.slice A0 n0 c0)) := by
                      refine ⟨?_, (unhide HNB).1, fun A n c e k hk => ?_⟩
                      · simpa using unhide HM5
                      · injection e with e1 e2 e3
                        subst e1 e2 e3
                        exact (unhide HNB).2 k hk
                    clear HNB f0 f1 f2 f3 f4 f5 f6 f7 f8 f9 f10 f11 f12 f13 hgl
                    go_loopw [4, 10] (fun b i wr => ∃ k : Nat, k ≤ 5 ∧ i = .int .i64 k ∧ BldN w wr g gg (mcells m A c vA vc) (numCells m.cmd) (newT m 7 ++ (m.cmd.nums.take k).flatMap fun x => Num.uv x.toNat) b) (fun _ i _ => 5 - (intOf i).toNat)
                    case atStart => exact ⟨0, by omega, rfl, unhide HS1⟩
                    case round =>
                      obtain ⟨k, hk5, rfl, hbn⟩ := hrel
                      clear HS1 HM5 HB0
                      have HBN := hide hbn
                      have HB0 := hide hbn.1
                      have hn5 := hbn.2.1
                      clear hbn
                      obtain ⟨A0, n0, c0, rfl, hn0, _⟩ := (unhide HB0).row
                      have HN0 := hide hn0
                      clear hn0
                      have HLE := hide (Nat.le_trans (take_sub (fun x : Int => Num.uv x.toNat) m.cmd.nums k) (nums_len (unhide HGD).cmd))
                      by_cases h5 : k = 5
                      · subst h5
                        have f13 := (mAt (unhide HB0).mem.blk0).2.2.2.2.2.2.2.2.2.2.2.2.2
                        have hgl := (unhide HB0).mem.blk0.lt
                        have hky := (unhide HGD).cmd.key
                        rw [size_list'] at hky
                        have HF4 : Hid (∀ u, Calls Try.prog 56 #[.string m.cmd.key] u (NewB u (txU m.cmd.key))) := fun u => rtext_any m.cmd.key u (by omega)
                        have HLL : Hid ((txU m.cmd.key).length ≤ 100) := hide (Nat.le_trans (txU_len (by omega)) (by omega))
                        have HLN2 : Hid ((newT m 7 ++ (m.cmd.nums.take 5).flatMap fun x => Num.uv x.toNat).length ≤ 1640000) := hide (by have h1 := unhide HLN; have h2 := unhide HLE; rw [List.length_append]; omega)
                        clear hky hn5 HLN
                        have HLN := HLN2
                        go_wp2_with (first
                          | (go_at_call 56; (with_reducible refine Calls.mono (unhide HF4 _) ?_); go_must ((
                             rintro _ u1 ⟨A1, n1, c1, rfl, hn, ho, hb, hc⟩
                             have HPUT := hide (rput1_bld (Nat.le_of_eq (unhide HGS)) (unhide HB0) hn ho hb (by have := unhide HLL; have := unhide HLN; omega))
                             clear hn ho hb hc)))
                          | (go_at_call 51; go_must ((
                             refine Calls.mono (unhide HPUT) ?_
                             rintro _ w9 ⟨b9, rfl, hbld⟩
                             have HB9 := hide hbld
                             clear hbld)))
                          )
                        go_meet
                        case rel => exact ⟨congrArg (Value.int .i64) (by show _ = newM m 7 + 128 * b2 (nzC m.cmd); rw [unhide HMM, b2t (unhide HZ)]; omega), by show Bld _ _ _ _ (newT m 7 ++ nK m.cmd) _; unfold nK; rw [unhide HZ]; have h := unhide HB9; rw [List.append_assoc] at h; exact h⟩
                      · have i0 : wr.cell? ⟨gg, 0, none⟩ = some (.int .i64 m.cmd.kind) := hn5.cell 0
                        have i1 : wr.cell? ⟨gg, 1, none⟩ = some (.int .i64 m.cmd.dc) := hn5.cell 1
                        have i2 : wr.cell? ⟨gg, 2, none⟩ = some (.int .i64 m.cmd.shard) := hn5.cell 2
                        have i3 : wr.cell? ⟨gg, 3, none⟩ = some (.int .i64 m.cmd.node) := hn5.cell 3
                        have i4 : wr.cell? ⟨gg, 4, none⟩ = some (.int .i64 m.cmd.mode) := hn5.cell 4
                        clear hn5
                        obtain rfl | rfl | rfl | rfl | rfl : k = 0 ∨ k = 1 ∨ k = 2 ∨ k = 3 ∨ k = 4 := by omega
                        ·
                          have HF3 : Hid (∀ u, Calls Try.prog 55 #[.int .u64 m.cmd.kind] u (NewB u (Num.uv m.cmd.kind.toNat))) := fun u => ruvar_any m.cmd.kind u (unhide HGD).cmd.kind.1 (by have := (unhide HGD).cmd.kind.2; omega)
                          have HLL : Hid ((Num.uv m.cmd.kind.toNat).length ≤ 100) := hide (Nat.le_trans (uvl m.cmd.kind (unhide HGD).cmd.kind.1 (by have := (unhide HGD).cmd.kind.2; omega)) (by omega))
                          have e7 := wrap64 (n := m.cmd.kind) (unhide HGD).cmd.kind.1 (by have := (unhide HGD).cmd.kind.2; omega)
                          have HSU := hide (flat_succ (fun x : Int => Num.uv x.toNat) (l := m.cmd.nums) (k := 0) (x := m.cmd.kind) rfl)
                          have HLN2 : Hid ((newT m 7 ++ (m.cmd.nums.take 0).flatMap fun x => Num.uv x.toNat).length ≤ 1640000) := hide (by have h1 := unhide HLN; have h2 := unhide HLE; rw [List.length_append]; omega)
                          go_wp2_with (first
                            | (go_at_call 55; (with_reducible refine Calls.mono (unhide HF3 _) ?_); go_must ((
                               rintro _ u1 ⟨A1, n1, c1, rfl, hn, ho, hb, hc⟩
                               have HPUT := hide (rput1_bldN (Nat.le_of_eq (unhide HGS)) (unhide HBN) hn ho hb (by have := unhide HLL; have := unhide HLN2; omega))
                               clear hn ho hb hc)))
                            | (go_at_call 51; go_must ((
                               refine Calls.mono (unhide HPUT) ?_
                               rintro _ w9 ⟨b9, rfl, hbld⟩
                               have HB9 := hide hbld
                               clear hbld))))
                          exact ⟨⟨1, by omega, rfl, by rw [unhide HSU, ← List.append_assoc]; exact unhide HB9⟩, by simp [intOf]⟩
                        ·
                          have HF3 : Hid (∀ u, Calls Try.prog 55 #[.int .u64 m.cmd.dc] u (NewB u (Num.uv m.cmd.dc.toNat))) := fun u => ruvar_any m.cmd.dc u (unhide HGD).cmd.dc.1 (by have := (unhide HGD).cmd.dc.2; omega)
                          have HLL : Hid ((Num.uv m.cmd.dc.toNat).length ≤ 100) := hide (Nat.le_trans (uvl m.cmd.dc (unhide HGD).cmd.dc.1 (by have := (unhide HGD).cmd.dc.2; omega)) (by omega))
                          have e7 := wrap64 (n := m.cmd.dc) (unhide HGD).cmd.dc.1 (by have := (unhide HGD).cmd.dc.2; omega)
                          have HSU := hide (flat_succ (fun x : Int => Num.uv x.toNat) (l := m.cmd.nums) (k := 1) (x := m.cmd.dc) rfl)
                          have HLN2 : Hid ((newT m 7 ++ (m.cmd.nums.take 1).flatMap fun x => Num.uv x.toNat).length ≤ 1640000) := hide (by have h1 := unhide HLN; have h2 := unhide HLE; rw [List.length_append]; omega)
                          go_wp2_with (first
                            | (go_at_call 55; (with_reducible refine Calls.mono (unhide HF3 _) ?_); go_must ((
                               rintro _ u1 ⟨A1, n1, c1, rfl, hn, ho, hb, hc⟩
                               have HPUT := hide (rput1_bldN (Nat.le_of_eq (unhide HGS)) (unhide HBN) hn ho hb (by have := unhide HLL; have := unhide HLN2; omega))
                               clear hn ho hb hc)))
                            | (go_at_call 51; go_must ((
                               refine Calls.mono (unhide HPUT) ?_
                               rintro _ w9 ⟨b9, rfl, hbld⟩
                               have HB9 := hide hbld
                               clear hbld))))
                          exact ⟨⟨2, by omega, rfl, by rw [unhide HSU, ← List.append_assoc]; exact unhide HB9⟩, by simp [intOf]⟩
                        ·
                          have HF3 : Hid (∀ u, Calls Try.prog 55 #[.int .u64 m.cmd.shard] u (NewB u (Num.uv m.cmd.shard.toNat))) := fun u => ruvar_any m.cmd.shard u (unhide HGD).cmd.shard.1 (by have := (unhide HGD).cmd.shard.2; omega)
                          have HLL : Hid ((Num.uv m.cmd.shard.toNat).length ≤ 100) := hide (Nat.le_trans (uvl m.cmd.shard (unhide HGD).cmd.shard.1 (by have := (unhide HGD).cmd.shard.2; omega)) (by omega))
                          have e7 := wrap64 (n := m.cmd.shard) (unhide HGD).cmd.shard.1 (by have := (unhide HGD).cmd.shard.2; omega)
                          have HSU := hide (flat_succ (fun x : Int => Num.uv x.toNat) (l := m.cmd.nums) (k := 2) (x := m.cmd.shard) rfl)
                          have HLN2 : Hid ((newT m 7 ++ (m.cmd.nums.take 2).flatMap fun x => Num.uv x.toNat).length ≤ 1640000) := hide (by have h1 := unhide HLN; have h2 := unhide HLE; rw [List.length_append]; omega)
                          go_wp2_with (first
                            | (go_at_call 55; (with_reducible refine Calls.mono (unhide HF3 _) ?_); go_must ((
                               rintro _ u1 ⟨A1, n1, c1, rfl, hn, ho, hb, hc⟩
                               have HPUT := hide (rput1_bldN (Nat.le_of_eq (unhide HGS)) (unhide HBN) hn ho hb (by have := unhide HLL; have := unhide HLN2; omega))
                               clear hn ho hb hc)))
                            | (go_at_call 51; go_must ((
                               refine Calls.mono (unhide HPUT) ?_
                               rintro _ w9 ⟨b9, rfl, hbld⟩
                               have HB9 := hide hbld
                               clear hbld))))
                          exact ⟨⟨3, by omega, rfl, by rw [unhide HSU, ← List.append_assoc]; exact unhide HB9⟩, by simp [intOf]⟩
                        ·
                          have HF3 : Hid (∀ u, Calls Try.prog 55 #[.int .u64 m.cmd.node] u (NewB u (Num.uv m.cmd.node.toNat))) := fun u => ruvar_any m.cmd.node u (unhide HGD).cmd.node.1 (by have := (unhide HGD).cmd.node.2; omega)
                          have HLL : Hid ((Num.uv m.cmd.node.toNat).length ≤ 100) := hide (Nat.le_trans (uvl m.cmd.node (unhide HGD).cmd.node.1 (by have := (unhide HGD).cmd.node.2; omega)) (by omega))
                          have e7 := wrap64 (n := m.cmd.node) (unhide HGD).cmd.node.1 (by have := (unhide HGD).cmd.node.2; omega)
                          have HSU := hide (flat_succ (fun x : Int => Num.uv x.toNat) (l := m.cmd.nums) (k := 3) (x := m.cmd.node) rfl)
                          have HLN2 : Hid ((newT m 7 ++ (m.cmd.nums.take 3).flatMap fun x => Num.uv x.toNat).length ≤ 1640000) := hide (by have h1 := unhide HLN; have h2 := unhide HLE; rw [List.length_append]; omega)
                          go_wp2_with (first
                            | (go_at_call 55; (with_reducible refine Calls.mono (unhide HF3 _) ?_); go_must ((
                               rintro _ u1 ⟨A1, n1, c1, rfl, hn, ho, hb, hc⟩
                               have HPUT := hide (rput1_bldN (Nat.le_of_eq (unhide HGS)) (unhide HBN) hn ho hb (by have := unhide HLL; have := unhide HLN2; omega))
                               clear hn ho hb hc)))
                            | (go_at_call 51; go_must ((
                               refine Calls.mono (unhide HPUT) ?_
                               rintro _ w9 ⟨b9, rfl, hbld⟩
                               have HB9 := hide hbld
                               clear hbld))))
                          exact ⟨⟨4, by omega, rfl, by rw [unhide HSU, ← List.append_assoc]; exact unhide HB9⟩, by simp [intOf]⟩
                        ·
                          have HF3 : Hid (∀ u, Calls Try.prog 55 #[.int .u64 m.cmd.mode] u (NewB u (Num.uv m.cmd.mode.toNat))) := fun u => ruvar_any m.cmd.mode u (unhide HGD).cmd.mode.1 (by have := (unhide HGD).cmd.mode.2; omega)
                          have HLL : Hid ((Num.uv m.cmd.mode.toNat).length ≤ 100) := hide (Nat.le_trans (uvl m.cmd.mode (unhide HGD).cmd.mode.1 (by have := (unhide HGD).cmd.mode.2; omega)) (by omega))
                          have e7 := wrap64 (n := m.cmd.mode) (unhide HGD).cmd.mode.1 (by have := (unhide HGD).cmd.mode.2; omega)
                          have HSU := hide (flat_succ (fun x : Int => Num.uv x.toNat) (l := m.cmd.nums) (k := 4) (x := m.cmd.mode) rfl)
                          have HLN2 : Hid ((newT m 7 ++ (m.cmd.nums.take 4).flatMap fun x => Num.uv x.toNat).length ≤ 1640000) := hide (by have h1 := unhide HLN; have h2 := unhide HLE; rw [List.length_append]; omega)
                          go_wp2_with (first
                            | (go_at_call 55; (with_reducible refine Calls.mono (unhide HF3 _) ?_); go_must ((
                               rintro _ u1 ⟨A1, n1, c1, rfl, hn, ho, hb, hc⟩
                               have HPUT := hide (rput1_bldN (Nat.le_of_eq (unhide HGS)) (unhide HBN) hn ho hb (by have := unhide HLL; have := unhide HLN2; omega))
                               clear hn ho hb hc)))
                            | (go_at_call 51; go_must ((
                               refine Calls.mono (unhide HPUT) ?_
                               rintro _ w9 ⟨b9, rfl, hbld⟩
                               have HB9 := hide hbld
                               clear hbld))))
                          exact ⟨⟨5, by omega, rfl, by rw [unhide HSU, ← List.append_assoc]; exact unhide HB9⟩, by simp [intOf]⟩
                  · have hz : nzC m.cmd = false := unhide HNZ
                    have HZ := hide hz
                    clear hz
                    go_wp2_with fail
                    go_meet
                    case rel => exact ⟨congrArg (Value.int .i64) (by show _ = newM m 7 + 128 * b2 (nzC m.cmd); rw [unhide HMM, b2f (unhide HZ)]; omega), by show Bld _ _ _ _ (newT m 7 ++ nK m.cmd) _; unfold nK; rw [unhide HZ]; simpa using unhide HB0⟩
                  -- s7]
                case rest =>
                  clear HB0 f0 f1 f2 f3 f4 f5 f6 f7 f8 f9 f10 f11 f12 f13 hgl
                  obtain ⟨rfl, hbd⟩ := hcut
                  have HB0 := hide hbd
                  clear hbd
                  obtain ⟨f0, f1, f2, f3, f4, f5, f6, f7, f8, f9, f10, f11, f12, f13⟩ := mAt (unhide HB0).mem.blk0
                  have hgl := (unhide HB0).mem.blk0.lt
                  obtain ⟨A0, n0, c0, rfl, hn0, _⟩ := (unhide HB0).row
                  have HN0 := hide hn0
                  have hml := newM_lt m 8 (by omega)
                  simp only [Int.reducePow] at hml
                  have HLN := hide (new8_len (unhide HGD) (unhide HRG))
                  have HX := hide (bv_of (n := m.kind) (by omega) (by omega))
                  have HY := hide (bv_of (n := newM m 8) hml.1 (by omega))
                  have e8 := wrap8 (n := m.kind) (by omega) (by omega)
                  have e9 := wrap8 (n := newM m 8) hml.1 (by omega)
                  clear hn0 hml
                  go_wp2_with (go_at_call 51; go_must ((
                     refine Calls.mono (rtail_put (Nat.le_of_eq (unhide HGS)) (unhide HB0) (unhide HX) (unhide HY) (by have := unhide HLN; omega)) ?_
                     rintro _ w9 ⟨b9, rfl, hbld⟩
                     have HB9 := hide hbld
                     clear hbld)))
                  go_ret
                  exact (unhide HB9).fresh (unhide HGS)
end Go.Proofs.Ytkgacehnpdijaaa
