/- The program's elder body. -/
import Derived.Test.YtkgacehnpdijaaaWirePart
namespace Go.Proofs.Ytkgacehnpdijaaa
set_option linter.unusedVariables false
open Go.RowKit Wire

set_option maxHeartbeats 8000000 in
set_option maxRecDepth 20000 in
theorem elder_any (m : Ms) (A : Option Addr) (c : Nat) (vA : Option Addr) (vc : Nat) (B : Nat) (w : World) (hok : Mq.Ok ⟨m, A, c, vA, vc⟩ w B) (hB : B ≤ w.heap.size) (hg : Wire.Good m) : Calls Try.prog 28 #[.agg (mcells m A c vA vc)] w (NewB w (eldOf m)) := by
  have HM0 := hide ((Mem.start w).new (t := 28) (cs := mcells m A c vA vc) w.heap.size rfl)
  have HV := hide (hok.vers.more hB)
  have HVC := hide (hok.vec.more hB)
  have hr : Rng m := hok.rng
  obtain ⟨g, hgs⟩ : ∃ g, w.heap.size = g := ⟨_, rfl⟩
  have h0 := hg.k0; have h1 := hg.k1
  have hlo := hg.lo; have hhi := hg.hi; have hnv := hg.nv; have hnc := hg.nc
  rw [size_list'] at hlo hhi
  have HF1 : Hid (∀ u, Calls Try.prog 46 #[.int .u64 m.id, .int .i64 8] u (NewB u (Num.fx 8 m.id.toNat))) := fun u => wfixed_any m.id 8 u hr.id.1 hr.id.2 (by omega) (by omega)
  have HF2 : Hid (∀ u, Calls Try.prog 46 #[.int .u64 m.n, .int .i64 8] u (NewB u (Num.fx 8 m.n.toNat))) := fun u => wfixed_any m.n 8 u hr.n.1 hr.n.2 (by omega) (by omega)
  have HF3 : Hid (∀ u, Calls Try.prog 46 #[.int .u64 m.ts, .int .i64 8] u (NewB u (Num.fx 8 m.ts.toNat))) := fun u => wfixed_any m.ts 8 u hr.ts.1 hr.ts.2 (by omega) (by omega)
  have HF4 : Hid (∀ u, Calls Try.prog 47 #[.string m.lo] u (NewB u (tx1 m.lo))) := fun u => wshort_any m.lo u (by omega)
  have HF5 : Hid (∀ u, Calls Try.prog 47 #[.string m.hi] u (NewB u (tx1 m.hi))) := fun u => wshort_any m.hi u (by omega)
  have HF6 : Hid (∀ u, Calls Try.prog 46 #[.int .u64 (m.vers.length : Int), .int .i64 2] u (NewB u (Num.fx 2 m.vers.length))) := fun u => wfixed_any (m.vers.length : Int) 2 u (by omega) (by show _ < ((65536 : Nat) : Int); omega) (by omega) (by omega)
  have HBK := hide (bv_of (n := m.kind) (by omega) (by omega))
  have HLH := hide (eldHead_len hlo hhi)
  have e1 := wrap8 (n := m.kind) (by omega) (by omega)
  have e2 := wrap64 (n := (m.vers.length : Int)) (by omega) (by omega)
  obtain ⟨w1, hw1⟩ : ∃ u, w.alloc (.cells (mcells m A c vA vc) 28) = u := ⟨_, rfl⟩
  rw [hw1] at HM0
  rw [hgs] at HM0
  have HGS := hide hgs
  have HOK := hide hok
  have HGD := hide hg
  have HRG := hide hr
  clear hok hg hr hB
  show Calls _ _ #[.agg #[.int .i64 m.kind, .int .u64 m.id, .int .u64 m.n, .int .u64 m.ts, .string m.lo, .string m.hi, .slice A m.vers.length c, .slice vA m.vec.length vc, .int .i64 m.cmd.kind, .int .i64 m.cmd.dc, .int .i64 m.cmd.shard, .int .i64 m.cmd.node, .int .i64 m.cmd.mode, .string m.cmd.key]] _ _
  go_enter Try.func28, Try.ntmps28
  go_upto_region 1 with fail
  go_cut [3] (fun b u => Bld w u g (mcells m A c vA vc) (eldHead m) b)
  -- [m1
  case first =>
    have HM1 : Hid (Mem w w1.drew [(g, 28, mcells m A c vA vc)]) := (unhide HM0).drew
    have HBLK : Hid (Blk w1.drew g 28 (mcells m A c vA vc)) := (unhide HM1).blk0
    have HG : Hid (Below w1.drew.heap.size w1.drew w1.drew) := Below.refl _ _
    have fS : MS m A c vA vc g w1.drew := mS (unhide HBLK)
    clear hgs hw1
    go_region_held3 (fun u => u.cell? ⟨g, 0, none⟩ = some (.int .i64 m.kind) ∧ u.cell? ⟨g, 1, none⟩ = some (.int .u64 m.id) ∧ u.cell? ⟨g, 2, none⟩ = some (.int .u64 m.n) ∧ u.cell? ⟨g, 3, none⟩ = some (.int .u64 m.ts) ∧ u.cell? ⟨g, 4, none⟩ = some (.string m.lo) ∧ u.cell? ⟨g, 5, none⟩ = some (.string m.hi) ∧ u.cell? ⟨g, 6, none⟩ = some (.slice A m.vers.length c)) (first | assumption | exact fS | exact fS1 | exact fS2 | exact fS3 | exact fS4 | exact fS5 | exact fS6 | exact fS9 | exact mS (((unhide HBLK).below (unhide HG) (unhide HBLK).lt).alloc _) | go_keep)
      (first
      | (go_at_call 46; (with_reducible refine Calls.mono (unhide HF1 _) ?_); go_must ((
         rintro _ u1 ⟨A1, n1, c1, rfl, hn, ho, hb, hc⟩
         (with_reducible first | replace HG := hide (gT (unhide HG) hb) | replace HG := hide (gTA (unhide HG) hb) | replace HG := hide (gTAD (unhide HG) hb))
         (try (with_reducible first | replace HPK := hide ((unhide HPK).go hb) | replace HPK := hide ((unhide HPK).goA hb) | have HPK := hide (ptr_newA (unhide HBK) hb) | have HPK := hide (ptr_newAD (unhide HBK) hb)))
         (try (with_reducible first | replace HP1 := hide ((unhide HP1).go hb) | replace HP1 := hide ((unhide HP1).goA hb)))
         (try (with_reducible first | replace HP2 := hide ((unhide HP2).go hb) | replace HP2 := hide ((unhide HP2).goA hb)))
         (try (with_reducible first | replace HP3 := hide ((unhide HP3).go hb) | replace HP3 := hide ((unhide HP3).goA hb)))
         (try (with_reducible first | replace HP4 := hide ((unhide HP4).go hb) | replace HP4 := hide ((unhide HP4).goA hb)))
         (try (with_reducible first | replace HP5 := hide ((unhide HP5).go hb) | replace HP5 := hide ((unhide HP5).goA hb)))
         have HP1 := hide (ptr_own hn ho)
         have hk := (unhide HBLK).below (unhide HG) (unhide HBLK).lt
         have fS1 := mS hk
         clear hn ho hb hc hk)))
      | (go_at_call 46; (with_reducible refine Calls.mono (unhide HF2 _) ?_); go_must ((
         rintro _ u2 ⟨A2, n2, c2, rfl, hn, ho, hb, hc⟩
         (with_reducible first | replace HG := hide (gT (unhide HG) hb) | replace HG := hide (gTA (unhide HG) hb) | replace HG := hide (gTAD (unhide HG) hb))
         (try (with_reducible first | replace HPK := hide ((unhide HPK).go hb) | replace HPK := hide ((unhide HPK).goA hb) | have HPK := hide (ptr_newA (unhide HBK) hb) | have HPK := hide (ptr_newAD (unhide HBK) hb)))
         (try (with_reducible first | replace HP1 := hide ((unhide HP1).go hb) | replace HP1 := hide ((unhide HP1).goA hb)))
         (try (with_reducible first | replace HP2 := hide ((unhide HP2).go hb) | replace HP2 := hide ((unhide HP2).goA hb)))
         (try (with_reducible first | replace HP3 := hide ((unhide HP3).go hb) | replace HP3 := hide ((unhide HP3).goA hb)))
         (try (with_reducible first | replace HP4 := hide ((unhide HP4).go hb) | replace HP4 := hide ((unhide HP4).goA hb)))
         (try (with_reducible first | replace HP5 := hide ((unhide HP5).go hb) | replace HP5 := hide ((unhide HP5).goA hb)))
         have HP2 := hide (ptr_own hn ho)
         have hk := (unhide HBLK).below (unhide HG) (unhide HBLK).lt
         have fS2 := mS hk
         clear hn ho hb hc hk)))
      | (go_at_call 46; (with_reducible refine Calls.mono (unhide HF3 _) ?_); go_must ((
         rintro _ u3 ⟨A3, n3, c3, rfl, hn, ho, hb, hc⟩
         (with_reducible first | replace HG := hide (gT (unhide HG) hb) | replace HG := hide (gTA (unhide HG) hb) | replace HG := hide (gTAD (unhide HG) hb))
         (try (with_reducible first | replace HPK := hide ((unhide HPK).go hb) | replace HPK := hide ((unhide HPK).goA hb) | have HPK := hide (ptr_newA (unhide HBK) hb) | have HPK := hide (ptr_newAD (unhide HBK) hb)))
         (try (with_reducible first | replace HP1 := hide ((unhide HP1).go hb) | replace HP1 := hide ((unhide HP1).goA hb)))
         (try (with_reducible first | replace HP2 := hide ((unhide HP2).go hb) | replace HP2 := hide ((unhide HP2).goA hb)))
         (try (with_reducible first | replace HP3 := hide ((unhide HP3).go hb) | replace HP3 := hide ((unhide HP3).goA hb)))
         (try (with_reducible first | replace HP4 := hide ((unhide HP4).go hb) | replace HP4 := hide ((unhide HP4).goA hb)))
         (try (with_reducible first | replace HP5 := hide ((unhide HP5).go hb) | replace HP5 := hide ((unhide HP5).goA hb)))
         have HP3 := hide (ptr_own hn ho)
         have hk := (unhide HBLK).below (unhide HG) (unhide HBLK).lt
         have fS3 := mS hk
         clear hn ho hb hc hk)))
      | (go_at_call 47; (with_reducible refine Calls.mono (unhide HF4 _) ?_); go_must ((
         rintro _ u4 ⟨A4, n4, c4, rfl, hn, ho, hb, hc⟩
         (with_reducible first | replace HG := hide (gT (unhide HG) hb) | replace HG := hide (gTA (unhide HG) hb) | replace HG := hide (gTAD (unhide HG) hb))
         (try (with_reducible first | replace HPK := hide ((unhide HPK).go hb) | replace HPK := hide ((unhide HPK).goA hb) | have HPK := hide (ptr_newA (unhide HBK) hb) | have HPK := hide (ptr_newAD (unhide HBK) hb)))
         (try (with_reducible first | replace HP1 := hide ((unhide HP1).go hb) | replace HP1 := hide ((unhide HP1).goA hb)))
         (try (with_reducible first | replace HP2 := hide ((unhide HP2).go hb) | replace HP2 := hide ((unhide HP2).goA hb)))
         (try (with_reducible first | replace HP3 := hide ((unhide HP3).go hb) | replace HP3 := hide ((unhide HP3).goA hb)))
         (try (with_reducible first | replace HP4 := hide ((unhide HP4).go hb) | replace HP4 := hide ((unhide HP4).goA hb)))
         (try (with_reducible first | replace HP5 := hide ((unhide HP5).go hb) | replace HP5 := hide ((unhide HP5).goA hb)))
         have HP4 := hide (ptr_own hn ho)
         have hk := (unhide HBLK).below (unhide HG) (unhide HBLK).lt
         have fS4 := mS hk
         clear hn ho hb hc hk)))
      | (go_at_call 47; (with_reducible refine Calls.mono (unhide HF5 _) ?_); go_must ((
         rintro _ u5 ⟨A5, n5, c5, rfl, hn, ho, hb, hc⟩
         (with_reducible first | replace HG := hide (gT (unhide HG) hb) | replace HG := hide (gTA (unhide HG) hb) | replace HG := hide (gTAD (unhide HG) hb))
         (try (with_reducible first | replace HPK := hide ((unhide HPK).go hb) | replace HPK := hide ((unhide HPK).goA hb) | have HPK := hide (ptr_newA (unhide HBK) hb) | have HPK := hide (ptr_newAD (unhide HBK) hb)))
         (try (with_reducible first | replace HP1 := hide ((unhide HP1).go hb) | replace HP1 := hide ((unhide HP1).goA hb)))
         (try (with_reducible first | replace HP2 := hide ((unhide HP2).go hb) | replace HP2 := hide ((unhide HP2).goA hb)))
         (try (with_reducible first | replace HP3 := hide ((unhide HP3).go hb) | replace HP3 := hide ((unhide HP3).goA hb)))
         (try (with_reducible first | replace HP4 := hide ((unhide HP4).go hb) | replace HP4 := hide ((unhide HP4).goA hb)))
         (try (with_reducible first | replace HP5 := hide ((unhide HP5).go hb) | replace HP5 := hide ((unhide HP5).goA hb)))
         have HP5 := hide (ptr_own hn ho)
         have hk := (unhide HBLK).below (unhide HG) (unhide HBLK).lt
         have fS5 := mS hk
         clear hn ho hb hc hk)))
      | (go_at_call 46; (with_reducible refine Calls.mono (unhide HF6 _) ?_); go_must ((
         rintro _ u6 ⟨A6, n6, c6, rfl, hn, ho, hb, hc⟩
         (with_reducible first | replace HG := hide (gT (unhide HG) hb) | replace HG := hide (gTA (unhide HG) hb) | replace HG := hide (gTAD (unhide HG) hb))
         (try (with_reducible first | replace HPK := hide ((unhide HPK).go hb) | replace HPK := hide ((unhide HPK).goA hb) | have HPK := hide (ptr_newA (unhide HBK) hb) | have HPK := hide (ptr_newAD (unhide HBK) hb)))
         (try (with_reducible first | replace HP1 := hide ((unhide HP1).go hb) | replace HP1 := hide ((unhide HP1).goA hb)))
         (try (with_reducible first | replace HP2 := hide ((unhide HP2).go hb) | replace HP2 := hide ((unhide HP2).goA hb)))
         (try (with_reducible first | replace HP3 := hide ((unhide HP3).go hb) | replace HP3 := hide ((unhide HP3).goA hb)))
         (try (with_reducible first | replace HP4 := hide ((unhide HP4).go hb) | replace HP4 := hide ((unhide HP4).goA hb)))
         (try (with_reducible first | replace HP5 := hide ((unhide HP5).go hb) | replace HP5 := hide ((unhide HP5).goA hb)))
         have HP6 := hide (ptr_own hn ho)
         have hk := (unhide HBLK).below (unhide HG) (unhide HBLK).lt
         have fS6 := mS hk
         clear hn ho hb hc hk)))
      | (go_at_call 45; go_must ((
         have hgl := ((unhide HBLK).below (unhide HG) (unhide HBLK).lt).lt
         first
           | (refine Calls.mono (put_newg [] none 0 0 [⟨[UInt8.ofNat m.kind.toNat], _, 1, 1⟩, ⟨_, A1, n1, c1⟩, ⟨_, A2, n2, c2⟩, ⟨_, A3, n3, c3⟩, ⟨_, A4, n4, c4⟩, ⟨_, A5, n5, c5⟩, ⟨_, A6, n6, c6⟩] (g + 1) _ _ (by first | rfl | simp) rfl (own_nil _ _ _ _) (allC ((unhide HPK).at_ (by simp [Value.ownBlock])) (allC ((unhide HP1).at_ (by simp [Value.ownBlock])) (allC ((unhide HP2).at_ (by simp [Value.ownBlock])) (allC ((unhide HP3).at_ (by simp [Value.ownBlock])) (allC ((unhide HP4).at_ (by simp [Value.ownBlock])) (allC ((unhide HP5).at_ (by simp [Value.ownBlock])) (allC ((unhide HP6).at_ (by simp [Value.ownBlock])) all0))))))) (by first | exact hgl | (simp; omega)) (by have := unhide HLH; simp only [cat, eldHead, List.flatMap_cons, List.flatMap_nil, List.append_nil] at this ⊢; omega) (by simp)) ?_)
           | (refine Calls.mono (put_newg [] none 0 0 [⟨[UInt8.ofNat m.kind.toNat], _, 1, 1⟩, ⟨_, A1, n1, c1⟩, ⟨_, A2, n2, c2⟩, ⟨_, A3, n3, c3⟩, ⟨_, A4, n4, c4⟩, ⟨_, A5, n5, c5⟩, ⟨_, A6, n6, c6⟩] (g + 1) _ _ (by first | rfl | simp) rfl (own_nil _ _ _ _) (allC ((ptr_new _ (unhide HBK) _).at_ (by simp [Value.ownBlock])) (allC (((unhide HP1).go (below_made _ _)).at_ (by simp [Value.ownBlock])) (allC (((unhide HP2).go (below_made _ _)).at_ (by simp [Value.ownBlock])) (allC (((unhide HP3).go (below_made _ _)).at_ (by simp [Value.ownBlock])) (allC (((unhide HP4).go (below_made _ _)).at_ (by simp [Value.ownBlock])) (allC (((unhide HP5).go (below_made _ _)).at_ (by simp [Value.ownBlock])) (allC (((unhide HP6).go (below_made _ _)).at_ (by simp [Value.ownBlock])) all0))))))) (by first | exact hgl | (simp; omega)) (by have := unhide HLH; simp only [cat, eldHead, List.flatMap_cons, List.flatMap_nil, List.append_nil] at this ⊢; omega) (by simp)) ?_)
         rintro _ w9 hres
         obtain ⟨b9, rfl, hbld⟩ := putBld (Nat.le_of_eq (unhide HGS)) (by first | exact (unhide HM1).called (unhide HG) | exact ((unhide HM1).called (unhide HG)).other _) (own_nil _ (g + 1) 5 1) hres
         have fS9 := mS hbld.mem.blk0
         have HB9 := hide hbld
         clear hgl hbld hres)))
      )
    all_goals
      go_wp2_with fail
      go_meet
      case rel =>
        have h := unhide HB9
        simp only [cat, List.nil_append, List.flatMap_cons, List.flatMap_nil, List.append_nil] at h
        exact h
  -- m1]
  case rest =>
    have HBD := hide hcut
    clear hcut hgs hw1 HF1 HF2 HF3 HF4 HF5 HF6 HBK HLH e1
    obtain ⟨A0, n0, c0, rfl, hn0, _⟩ := (unhide HBD).row
    have f6 := (mS (unhide HBD).mem.blk0).2.2.2.2.2.2
    have hgl := (unhide HBD).mem.blk0.lt
    have HS0 : Hid (Bld w wc g (mcells m A c vA vc) (eldV m 0) (.slice A0 n0 c0)) := by show Bld _ _ _ _ _ _; unfold eldV; simpa using unhide HBD
    have HN0 := hide hn0
    clear hn0
    go_wp2_with fail
    go_loopw [3, 39] (fun b i wr => ∃ k : Nat, k ≤ m.vers.length ∧ i = .int .i64 k ∧ Bld w wr g (mcells m A c vA vc) (eldV m k) b) (fun _ i _ => m.vers.length - (intOf i).toNat)
    case atStart => exact ⟨0, by omega, rfl, unhide HS0⟩
    case round =>
      obtain ⟨k, hk, rfl, hbd⟩ := hrel
      have HB0 := hide hbd
      clear hbd HS0 HBD f6 hgl
      obtain ⟨A0, n0, c0, rfl, hn0, _⟩ := (unhide HB0).row
      have HN0 := hide hn0
      clear hn0
      by_cases hlt : k < m.vers.length
      ·
        -- [m2
        obtain ⟨v, hv⟩ : ∃ v, m.vers[k]? = some v := ⟨m.vers[k], List.getElem?_eq_getElem hlt⟩
        obtain ⟨ad, hA, _, a0, a1, a2, a3, a4, a5⟩ := verAt ((unhide HV).below (unhide HB0).mem.below) hv
        subst hA
        have gv : GoodV v := (unhide HGD).vers v (List.mem_of_getElem? hv)
        have rv := (unhide HRG).vers v (List.mem_of_getElem? hv)
        have hkey := gv.key; have hval := gv.val
        rw [size_list'] at hkey hval
        have d0 := gv.d0; have d1 := gv.d1; have t0 := gv.t0; have t1 := gv.t1
        have HF1 : Hid (∀ u, Calls Try.prog 47 #[.string v.key] u (NewB u (tx1 v.key))) := fun u => wshort_any v.key u (by omega)
        have HF2 : Hid (∀ u, Calls Try.prog 47 #[.string v.val] u (NewB u (tx1 v.val))) := fun u => wshort_any v.val u (by omega)
        obtain ⟨gn, hgn⟩ : ∃ n : Int, (if v.gone then (1 : Int) else 0) = n := ⟨_, rfl⟩
        have hgn0 : 0 ≤ gn ∧ gn ≤ 1 := by subst hgn; cases v.gone <;> decide
        have hgt : (if v.gone then 1 else 0 : Nat) = gn.toNat := by subst hgn; cases v.gone <;> rfl
        have HBT : Hid (∀ u, Calls Try.prog 48 #[.bool v.gone] u fun e w' => e = .returned (.int .u64 gn) ∧ u = w') := fun u => by rw [← hgn]; exact bitv_any v.gone u
        have HF3 : Hid (∀ u, Calls Try.prog 46 #[.int .u64 gn, .int .i64 1] u (NewB u (Num.fx 1 (if v.gone then 1 else 0)))) := fun u => by rw [hgt]; exact wfixed_any gn 1 u (by omega) (by omega) (by omega) (by omega)
        have HF4 : Hid (∀ u, Calls Try.prog 46 #[.int .u64 v.ts, .int .i64 8] u (NewB u (Num.fx 8 v.ts.toNat))) := fun u => wfixed_any v.ts 8 u rv.1 rv.2 (by omega) (by omega)
        have HF5 : Hid (∀ u, Calls Try.prog 46 #[.int .u64 v.dc, .int .i64 1] u (NewB u (Num.fx 1 v.dc.toNat))) := fun u => wfixed_any v.dc 1 u (by omega) (by omega) (by omega) (by omega)
        have HF6 : Hid (∀ u, Calls Try.prog 46 #[.int .u64 v.tx, .int .i64 4] u (NewB u (Num.fx 4 v.tx.toNat))) := fun u => wfixed_any v.tx 4 u (by omega) (by show _ < ((4294967296 : Nat) : Int); omega) (by omega) (by omega)
        have e3 := wrap64 (n := v.dc) (by omega) (by omega)
        have e4 := wrap64 (n := v.tx) (by omega) (by omega)
        have HLV := hide (verE_len gv)
        have HLN := hide (eldV_len (unhide HGD) k)
        have HSU := hide (eldV_succ hv)
        obtain ⟨h, hh⟩ : ∃ h, wr.heap.size = h := ⟨_, rfl⟩
        obtain ⟨w4, hw4⟩ : ∃ u, wr.alloc (.cells (vc6 v) 49) = u := ⟨_, rfl⟩
        have HM4 : Hid (Bld w w4.drew g (mcells m (some ad) c vA vc) (eldV m k) (.slice A0 n0 c0)) := hide (by rw [← hw4]; exact ((unhide HB0).go (below_made wr _)).go ((Below.refl _ _).drew))
        have HBLV : Hid (Blk w4.drew h 49 (vc6 v)) := hide (by rw [← hw4, ← hh]; exact Blk.new _ _ _)
        have HLT : Hid (∀ k, (Value.slice A0 n0 c0).ownBlock = some k → k < h) := hide (by rw [← hh]; exact (unhide HB0).lt)
        clear hv gv rv hgn hgn0 hgt
        go_upto_region 5 with fail
        clear hh hw4 a0 a1 a2 a3 a4 a5
        have HG : Hid (Below w4.drew.heap.size w4.drew w4.drew) := Below.refl _ _
        have fS : VS v h w4.drew := vS (unhide HBLV)
        go_region_held3 (fun u => u.cell? ⟨h, 0, none⟩ = some (.string v.key) ∧ u.cell? ⟨h, 1, none⟩ = some (.string v.val) ∧ u.cell? ⟨h, 2, none⟩ = some (.bool v.gone) ∧ u.cell? ⟨h, 3, none⟩ = some (.int .u64 v.ts) ∧ u.cell? ⟨h, 4, none⟩ = some (.int .i64 v.dc) ∧ u.cell? ⟨h, 5, none⟩ = some (.int .i64 v.tx)) (first | assumption | exact fS | exact fS1 | exact fS2 | exact fS3 | exact fS4 | exact fS5 | exact fS6 | exact fS9 | exact vS (((unhide HBLV).below (unhide HG) (unhide HBLV).lt).alloc _) | go_keep)
          (first
          | (go_at_call 48; (with_reducible refine Calls.mono (unhide HBT _) ?_); rintro _ ux ⟨rfl, rfl⟩)
          | (go_at_call 47; (with_reducible refine Calls.mono (unhide HF1 _) ?_); go_must ((
             rintro _ u1 ⟨A1, n1, c1, rfl, hn, ho, hb, hc⟩
             have HP1 := hide ((ptr_own hn ho).lo' (unhide HG).size)
             (with_reducible first | replace HG := hide (gT (unhide HG) hb) | replace HG := hide (gTA (unhide HG) hb) | replace HG := hide (gTAD (unhide HG) hb))
             (try (with_reducible first | replace HPK := hide ((unhide HPK).go hb) | replace HPK := hide ((unhide HPK).goA hb) | have HPK := hide (ptr_newA (unhide HBK) hb) | have HPK := hide (ptr_newAD (unhide HBK) hb)))
             (try (with_reducible first | replace HP1 := hide ((unhide HP1).go hb) | replace HP1 := hide ((unhide HP1).goA hb)))
             (try (with_reducible first | replace HP2 := hide ((unhide HP2).go hb) | replace HP2 := hide ((unhide HP2).goA hb)))
             (try (with_reducible first | replace HP3 := hide ((unhide HP3).go hb) | replace HP3 := hide ((unhide HP3).goA hb)))
             (try (with_reducible first | replace HP4 := hide ((unhide HP4).go hb) | replace HP4 := hide ((unhide HP4).goA hb)))
             (try (with_reducible first | replace HP5 := hide ((unhide HP5).go hb) | replace HP5 := hide ((unhide HP5).goA hb)))
             have hk := (unhide HBLV).below (unhide HG) (unhide HBLV).lt
             have fS1 := vS hk
             clear hn ho hb hc hk)))
          | (go_at_call 47; (with_reducible refine Calls.mono (unhide HF2 _) ?_); go_must ((
             rintro _ u2 ⟨A2, n2, c2, rfl, hn, ho, hb, hc⟩
             have HP2 := hide ((ptr_own hn ho).lo' (unhide HG).size)
             (with_reducible first | replace HG := hide (gT (unhide HG) hb) | replace HG := hide (gTA (unhide HG) hb) | replace HG := hide (gTAD (unhide HG) hb))
             (try (with_reducible first | replace HPK := hide ((unhide HPK).go hb) | replace HPK := hide ((unhide HPK).goA hb) | have HPK := hide (ptr_newA (unhide HBK) hb) | have HPK := hide (ptr_newAD (unhide HBK) hb)))
             (try (with_reducible first | replace HP1 := hide ((unhide HP1).go hb) | replace HP1 := hide ((unhide HP1).goA hb)))
             (try (with_reducible first | replace HP2 := hide ((unhide HP2).go hb) | replace HP2 := hide ((unhide HP2).goA hb)))
             (try (with_reducible first | replace HP3 := hide ((unhide HP3).go hb) | replace HP3 := hide ((unhide HP3).goA hb)))
             (try (with_reducible first | replace HP4 := hide ((unhide HP4).go hb) | replace HP4 := hide ((unhide HP4).goA hb)))
             (try (with_reducible first | replace HP5 := hide ((unhide HP5).go hb) | replace HP5 := hide ((unhide HP5).goA hb)))
             have hk := (unhide HBLV).below (unhide HG) (unhide HBLV).lt
             have fS2 := vS hk
             clear hn ho hb hc hk)))
          | (go_at_call 46; (with_reducible refine Calls.mono (unhide HF3 _) ?_); go_must ((
             rintro _ u3 ⟨A3, n3, c3, rfl, hn, ho, hb, hc⟩
             have HP3 := hide ((ptr_own hn ho).lo' (unhide HG).size)
             (with_reducible first | replace HG := hide (gT (unhide HG) hb) | replace HG := hide (gTA (unhide HG) hb) | replace HG := hide (gTAD (unhide HG) hb))
             (try (with_reducible first | replace HPK := hide ((unhide HPK).go hb) | replace HPK := hide ((unhide HPK).goA hb) | have HPK := hide (ptr_newA (unhide HBK) hb) | have HPK := hide (ptr_newAD (unhide HBK) hb)))
             (try (with_reducible first | replace HP1 := hide ((unhide HP1).go hb) | replace HP1 := hide ((unhide HP1).goA hb)))
             (try (with_reducible first | replace HP2 := hide ((unhide HP2).go hb) | replace HP2 := hide ((unhide HP2).goA hb)))
             (try (with_reducible first | replace HP3 := hide ((unhide HP3).go hb) | replace HP3 := hide ((unhide HP3).goA hb)))
             (try (with_reducible first | replace HP4 := hide ((unhide HP4).go hb) | replace HP4 := hide ((unhide HP4).goA hb)))
             (try (with_reducible first | replace HP5 := hide ((unhide HP5).go hb) | replace HP5 := hide ((unhide HP5).goA hb)))
             have hk := (unhide HBLV).below (unhide HG) (unhide HBLV).lt
             have fS3 := vS hk
             clear hn ho hb hc hk)))
          | (go_at_call 46; (with_reducible refine Calls.mono (unhide HF4 _) ?_); go_must ((
             rintro _ u4 ⟨A4, n4, c4, rfl, hn, ho, hb, hc⟩
             have HP4 := hide ((ptr_own hn ho).lo' (unhide HG).size)
             (with_reducible first | replace HG := hide (gT (unhide HG) hb) | replace HG := hide (gTA (unhide HG) hb) | replace HG := hide (gTAD (unhide HG) hb))
             (try (with_reducible first | replace HPK := hide ((unhide HPK).go hb) | replace HPK := hide ((unhide HPK).goA hb) | have HPK := hide (ptr_newA (unhide HBK) hb) | have HPK := hide (ptr_newAD (unhide HBK) hb)))
             (try (with_reducible first | replace HP1 := hide ((unhide HP1).go hb) | replace HP1 := hide ((unhide HP1).goA hb)))
             (try (with_reducible first | replace HP2 := hide ((unhide HP2).go hb) | replace HP2 := hide ((unhide HP2).goA hb)))
             (try (with_reducible first | replace HP3 := hide ((unhide HP3).go hb) | replace HP3 := hide ((unhide HP3).goA hb)))
             (try (with_reducible first | replace HP4 := hide ((unhide HP4).go hb) | replace HP4 := hide ((unhide HP4).goA hb)))
             (try (with_reducible first | replace HP5 := hide ((unhide HP5).go hb) | replace HP5 := hide ((unhide HP5).goA hb)))
             have hk := (unhide HBLV).below (unhide HG) (unhide HBLV).lt
             have fS4 := vS hk
             clear hn ho hb hc hk)))
          | (go_at_call 46; (with_reducible refine Calls.mono (unhide HF5 _) ?_); go_must ((
             rintro _ u5 ⟨A5, n5, c5, rfl, hn, ho, hb, hc⟩
             have HP5 := hide ((ptr_own hn ho).lo' (unhide HG).size)
             (with_reducible first | replace HG := hide (gT (unhide HG) hb) | replace HG := hide (gTA (unhide HG) hb) | replace HG := hide (gTAD (unhide HG) hb))
             (try (with_reducible first | replace HPK := hide ((unhide HPK).go hb) | replace HPK := hide ((unhide HPK).goA hb) | have HPK := hide (ptr_newA (unhide HBK) hb) | have HPK := hide (ptr_newAD (unhide HBK) hb)))
             (try (with_reducible first | replace HP1 := hide ((unhide HP1).go hb) | replace HP1 := hide ((unhide HP1).goA hb)))
             (try (with_reducible first | replace HP2 := hide ((unhide HP2).go hb) | replace HP2 := hide ((unhide HP2).goA hb)))
             (try (with_reducible first | replace HP3 := hide ((unhide HP3).go hb) | replace HP3 := hide ((unhide HP3).goA hb)))
             (try (with_reducible first | replace HP4 := hide ((unhide HP4).go hb) | replace HP4 := hide ((unhide HP4).goA hb)))
             (try (with_reducible first | replace HP5 := hide ((unhide HP5).go hb) | replace HP5 := hide ((unhide HP5).goA hb)))
             have hk := (unhide HBLV).below (unhide HG) (unhide HBLV).lt
             have fS5 := vS hk
             clear hn ho hb hc hk)))
          | (go_at_call 46; (with_reducible refine Calls.mono (unhide HF6 _) ?_); go_must ((
             rintro _ u6 ⟨A6, n6, c6, rfl, hn, ho, hb, hc⟩
             have HP6 := hide ((ptr_own hn ho).lo' (unhide HG).size)
             (with_reducible first | replace HG := hide (gT (unhide HG) hb) | replace HG := hide (gTA (unhide HG) hb) | replace HG := hide (gTAD (unhide HG) hb))
             (try (with_reducible first | replace HPK := hide ((unhide HPK).go hb) | replace HPK := hide ((unhide HPK).goA hb) | have HPK := hide (ptr_newA (unhide HBK) hb) | have HPK := hide (ptr_newAD (unhide HBK) hb)))
             (try (with_reducible first | replace HP1 := hide ((unhide HP1).go hb) | replace HP1 := hide ((unhide HP1).goA hb)))
             (try (with_reducible first | replace HP2 := hide ((unhide HP2).go hb) | replace HP2 := hide ((unhide HP2).goA hb)))
             (try (with_reducible first | replace HP3 := hide ((unhide HP3).go hb) | replace HP3 := hide ((unhide HP3).goA hb)))
             (try (with_reducible first | replace HP4 := hide ((unhide HP4).go hb) | replace HP4 := hide ((unhide HP4).goA hb)))
             (try (with_reducible first | replace HP5 := hide ((unhide HP5).go hb) | replace HP5 := hide ((unhide HP5).goA hb)))
             have hk := (unhide HBLV).below (unhide HG) (unhide HBLV).lt
             have fS6 := vS hk
             clear hn ho hb hc hk)))
          | (go_at_call 45; go_must ((
             have hbx := (unhide HM4).go (unhide HG)
             have hgl := hbx.mem.blk0.lt
             refine Calls.mono (put_newg (eldV m k) A0 n0 c0 [⟨_, A1, n1, c1⟩, ⟨_, A2, n2, c2⟩, ⟨_, A3, n3, c3⟩, ⟨_, A4, n4, c4⟩, ⟨_, A5, n5, c5⟩, ⟨_, A6, n6, c6⟩] (g + 1) _ _ rfl hbx.own.1 hbx.own.2 (allC ((unhide HP1).at_ fun k hk => .inl ((unhide HM4).lt k hk)) (allC ((unhide HP2).at_ fun k hk => .inl ((unhide HM4).lt k hk)) (allC ((unhide HP3).at_ fun k hk => .inl ((unhide HM4).lt k hk)) (allC ((unhide HP4).at_ fun k hk => .inl ((unhide HM4).lt k hk)) (allC ((unhide HP5).at_ fun k hk => .inl ((unhide HM4).lt k hk)) (allC ((unhide HP6).at_ fun k hk => .inl ((unhide HM4).lt k hk)) all0)))))) hgl (by have h1 := unhide HLV; have h2 := unhide HLN; have h3 := unhide HN0; simp only [cat, verE, List.flatMap_cons, List.flatMap_nil, List.append_nil] at h1 ⊢; omega) (by simp)) ?_
             rintro _ w9 hres
             obtain ⟨b9, rfl, hbld⟩ := putBld (Nat.le_of_eq (unhide HGS)) hbx.mem hbx.own.2 hres
             have fS9 : VS v h w9 := vS (hres.blk ((unhide HBLV).below (unhide HG) (unhide HBLV).lt) (unhide HLT))
             have HB9 := hide hbld
             clear hgl hbld hres hbx)))
          )
        go_wp2_with fail
        have HBF : Bld w w9 g (mcells m (some ad) c vA vc) (eldV m (k + 1)) b9 := by
          have h1 := unhide HB9
          simp only [cat, List.flatMap_cons, List.flatMap_nil, List.append_nil] at h1
          rw [unhide HSU]
          exact h1
        exact ⟨⟨k + 1, by omega, by go_num, HBF⟩, by simp [intOf]; omega⟩
        -- m2]
      · obtain rfl : k = m.vers.length := by omega
        have f7 := (unhide HB0).mem.blk0.cell 7
        have f7' : wr.cell? ⟨g, 7, none⟩ = some (.slice vA m.vec.length vc) := f7
        have hgl := (unhide HB0).mem.blk0.lt
        have HLN := hide (eldV_len (unhide HGD) m.vers.length)
        have HF1 : Hid (∀ u, Calls Try.prog 46 #[.int .u64 (m.vec.length : Int), .int .i64 1] u (NewB u (Num.fx 1 m.vec.length))) := fun u => wfixed_any (m.vec.length : Int) 1 u (by omega) (by omega) (by omega) (by omega)
        have e5 := wrap64 (n := (m.vec.length : Int)) (by omega) (by omega)
        clear f7 e2
        go_wp2_with (first
          | (go_at_call 46; (with_reducible refine Calls.mono (unhide HF1 _) ?_); go_must ((
             rintro _ u1 ⟨A1, n1, c1, rfl, hn, ho, hb, hc⟩
             have HPUT := hide (put1_bld (Nat.le_of_eq (unhide HGS)) (unhide HB0) hn ho hb (by rw [Num.fx_length]; have := unhide HLN; omega))
             clear hn ho hb hc)))
          | (go_at_call 45; go_must ((
             refine Calls.mono (unhide HPUT) ?_
             rintro _ w9 ⟨b9, rfl, hbld⟩
             have fq : w9.cell? ⟨g, 7, none⟩ = some (.slice vA m.vec.length vc) := hbld.mem.blk0.cell 7
             have hgl9 := hbld.mem.blk0.lt
             have HB9 := hide hbld
             clear hbld))))
        clear f7' hgl
        have HS1 : Hid (Bld w w9 g (mcells m A c vA vc) (eldW m 0) b9) := by show Bld _ _ _ _ _ _; unfold eldW eldC1; simpa using unhide HB9
        go_loopw [3, 79] (fun b i wr => ∃ k : Nat, k ≤ m.vec.length ∧ i = .int .i64 k ∧ Bld w wr g (mcells m A c vA vc) (eldW m k) b) (fun _ i _ => m.vec.length - (intOf i).toNat)
        case atStart => exact ⟨0, by omega, rfl, unhide HS1⟩
        case round =>
          obtain ⟨k, hk, rfl, hbd⟩ := hrel
          have HB0 := hide hbd
          clear hbd HS1 HB9 fq hgl9 HF1 HLN HPUT
          obtain ⟨A0, n0, c0, rfl, hn0, _⟩ := (unhide HB0).row
          have HN0 := hide hn0
          have HLN := hide (eldW_len (unhide HGD) k)
          clear hn0
          by_cases hlt : k < m.vec.length
          · obtain ⟨x, hx⟩ : ∃ x, m.vec[k]? = some x := ⟨m.vec[k], List.getElem?_eq_getElem hlt⟩
            obtain ⟨ad, hA, _, hcs⟩ := ((unhide HVC).below (unhide HB0).mem.below) (by rw [List.length_map]; omega)
            subst hA
            have a0 := hcs k (.int .u64 x) (by rw [List.getElem?_map, hx]; rfl)
            have rx := (unhide HRG).vec x (List.mem_of_getElem? hx)
            have HF2 : Hid (∀ u, Calls Try.prog 46 #[.int .u64 x, .int .i64 8] u (NewB u (Num.fx 8 x.toNat))) := fun u => wfixed_any x 8 u rx.1 rx.2 (by omega) (by omega)
            have HSU := hide (eldW_succ hx)
            clear hcs hx rx
            go_wp2_with (first
              | (go_at_call 46; (with_reducible refine Calls.mono (unhide HF2 _) ?_); go_must ((
                 rintro _ u1 ⟨A1, n1, c1, rfl, hn, ho, hb, hc⟩
                 have HPUT := hide (put1_bld (Nat.le_of_eq (unhide HGS)) (unhide HB0) hn ho hb (by rw [Num.fx_length]; have := unhide HLN; omega))
                 clear hn ho hb hc)))
              | (go_at_call 45; go_must ((
                 refine Calls.mono (unhide HPUT) ?_
                 rintro _ w9 ⟨b9, rfl, hbld⟩
                 have HB9 := hide hbld
                 clear hbld))))
            exact ⟨⟨k + 1, by omega, by go_num, by rw [unhide HSU]; exact unhide HB9⟩, by simp [intOf]; omega⟩
          · obtain rfl : k = m.vec.length := by omega
            have HNC : Hid (∀ u, Calls Try.prog 33 #[.agg #[.int .i64 m.cmd.kind, .int .i64 m.cmd.dc, .int .i64 m.cmd.shard, .int .i64 m.cmd.node, .int .i64 m.cmd.mode, .string m.cmd.key]] u fun e w' => e = .returned (.agg #[.int .i64 m.cmd.kind, .int .i64 m.cmd.dc, .int .i64 m.cmd.shard, .int .i64 m.cmd.node, .int .i64 m.cmd.mode]) ∧ Below u.heap.size u w') := fun u => numbers_any m.cmd u
            have ff := mAt (unhide HB0).mem.blk0
            obtain ⟨_, _, _, _, _, _, _, _, f8, f9, f10, f11, f12, f13⟩ := ff
            have hgl := (unhide HB0).mem.blk0.lt
            clear e5
            go_wp2_with (go_at_call 33; refine (unhide HNC _).mono ?_; rintro _ w5 ⟨rfl, hb5⟩
                         have HM5 := hide ((unhide HB0).go hb5); clear hb5)
            clear f8 f9 f10 f11 f12 f13 hgl HNC
            have HS2 : Hid (Bld w w5 g (mcells m A c vA vc) (eldN m 0) (.slice A0 n0 c0)) := by show Bld _ _ _ _ _ _; unfold eldN; simpa using unhide HM5
            go_loopw [3, 92] (fun b i wr => ∃ k : Nat, k ≤ 5 ∧ i = .int .i64 k ∧ Bld w wr g (mcells m A c vA vc) (eldN m k) b) (fun _ i _ => 5 - (intOf i).toNat)
            case atStart => exact ⟨0, by omega, rfl, unhide HS2⟩
            case round =>
              obtain ⟨k, hk5, rfl, hbd⟩ := hrel
              have HB1 := hide hbd
              clear hbd HS2 HM5 HN0 HB0 HLN
              obtain ⟨A0, n0, c0, rfl, hn0, _⟩ := (unhide HB1).row
              have HN0 := hide hn0
              have HLN := hide (eldN_len (unhide HGD) k)
              clear hn0
              by_cases h5 : k = 5
              · subst h5
                have f13 := (mAt (unhide HB1).mem.blk0).2.2.2.2.2.2.2.2.2.2.2.2.2
                have hgl := (unhide HB1).mem.blk0.lt
                have hky := (unhide HGD).cmd.key
                rw [size_list'] at hky
                have HLK := hide (tx1_len (s := m.cmd.key) (by omega))
                have HF4 : Hid (∀ u, Calls Try.prog 47 #[.string m.cmd.key] u (NewB u (tx1 m.cmd.key))) := fun u => wshort_any m.cmd.key u (by omega)
                clear hky
                go_wp2_with (first
                  | (go_at_call 47; (with_reducible refine Calls.mono (unhide HF4 _) ?_); go_must ((
                     rintro _ u1 ⟨A1, n1, c1, rfl, hn, ho, hb, hc⟩
                     have HPUT := hide (put1_bld (Nat.le_of_eq (unhide HGS)) (unhide HB1) hn ho hb (by have := unhide HLN; have := unhide HLK; omega))
                     clear hn ho hb hc)))
                  | (go_at_call 45; go_must ((
                     refine Calls.mono (unhide HPUT) ?_
                     rintro _ w9 ⟨b9, rfl, hbld⟩
                     have HB9 := hide hbld
                     clear hbld))))
                go_ret
                exact (unhide HB9).fresh (unhide HGS)
              · obtain ⟨i0, i1, i2, i3, i4⟩ := idx5 m.cmd wr
                obtain rfl | rfl | rfl | rfl | rfl : k = 0 ∨ k = 1 ∨ k = 2 ∨ k = 3 ∨ k = 4 := by omega
                ·
                  have HF3 : Hid (∀ u, Calls Try.prog 46 #[.int .u64 m.cmd.kind, .int .i64 1] u (NewB u (Num.fx 1 m.cmd.kind.toNat))) := fun u => wfixed_any m.cmd.kind 1 u (unhide HGD).cmd.kind.1 (by have := (unhide HGD).cmd.kind.2; omega) (by omega) (by omega)
                  have e7 := wrap64 (n := m.cmd.kind) (unhide HGD).cmd.kind.1 (by have := (unhide HGD).cmd.kind.2; omega)
                  have HSU := hide (eldN_succ (m := m) (k := 0) (x := m.cmd.kind) rfl)
                  go_wp2_with (first
                    | (go_at_call 46; (with_reducible refine Calls.mono (unhide HF3 _) ?_); go_must ((
                       rintro _ u1 ⟨A1, n1, c1, rfl, hn, ho, hb, hc⟩
                       have HPUT := hide (put1_bld (Nat.le_of_eq (unhide HGS)) (unhide HB1) hn ho hb (by rw [Num.fx_length]; have := unhide HLN; omega))
                       clear hn ho hb hc)))
                    | (go_at_call 45; go_must ((
                       refine Calls.mono (unhide HPUT) ?_
                       rintro _ w9 ⟨b9, rfl, hbld⟩
                       have HB9 := hide hbld
                       clear hbld))))
                  exact ⟨⟨1, by omega, rfl, by rw [unhide HSU]; exact unhide HB9⟩, by simp [intOf]⟩
                ·
                  have HF3 : Hid (∀ u, Calls Try.prog 46 #[.int .u64 m.cmd.dc, .int .i64 1] u (NewB u (Num.fx 1 m.cmd.dc.toNat))) := fun u => wfixed_any m.cmd.dc 1 u (unhide HGD).cmd.dc.1 (by have := (unhide HGD).cmd.dc.2; omega) (by omega) (by omega)
                  have e7 := wrap64 (n := m.cmd.dc) (unhide HGD).cmd.dc.1 (by have := (unhide HGD).cmd.dc.2; omega)
                  have HSU := hide (eldN_succ (m := m) (k := 1) (x := m.cmd.dc) rfl)
                  go_wp2_with (first
                    | (go_at_call 46; (with_reducible refine Calls.mono (unhide HF3 _) ?_); go_must ((
                       rintro _ u1 ⟨A1, n1, c1, rfl, hn, ho, hb, hc⟩
                       have HPUT := hide (put1_bld (Nat.le_of_eq (unhide HGS)) (unhide HB1) hn ho hb (by rw [Num.fx_length]; have := unhide HLN; omega))
                       clear hn ho hb hc)))
                    | (go_at_call 45; go_must ((
                       refine Calls.mono (unhide HPUT) ?_
                       rintro _ w9 ⟨b9, rfl, hbld⟩
                       have HB9 := hide hbld
                       clear hbld))))
                  exact ⟨⟨2, by omega, rfl, by rw [unhide HSU]; exact unhide HB9⟩, by simp [intOf]⟩
                ·
                  have HF3 : Hid (∀ u, Calls Try.prog 46 #[.int .u64 m.cmd.shard, .int .i64 1] u (NewB u (Num.fx 1 m.cmd.shard.toNat))) := fun u => wfixed_any m.cmd.shard 1 u (unhide HGD).cmd.shard.1 (by have := (unhide HGD).cmd.shard.2; omega) (by omega) (by omega)
                  have e7 := wrap64 (n := m.cmd.shard) (unhide HGD).cmd.shard.1 (by have := (unhide HGD).cmd.shard.2; omega)
                  have HSU := hide (eldN_succ (m := m) (k := 2) (x := m.cmd.shard) rfl)
                  go_wp2_with (first
                    | (go_at_call 46; (with_reducible refine Calls.mono (unhide HF3 _) ?_); go_must ((
                       rintro _ u1 ⟨A1, n1, c1, rfl, hn, ho, hb, hc⟩
                       have HPUT := hide (put1_bld (Nat.le_of_eq (unhide HGS)) (unhide HB1) hn ho hb (by rw [Num.fx_length]; have := unhide HLN; omega))
                       clear hn ho hb hc)))
                    | (go_at_call 45; go_must ((
                       refine Calls.mono (unhide HPUT) ?_
                       rintro _ w9 ⟨b9, rfl, hbld⟩
                       have HB9 := hide hbld
                       clear hbld))))
                  exact ⟨⟨3, by omega, rfl, by rw [unhide HSU]; exact unhide HB9⟩, by simp [intOf]⟩
                ·
                  have HF3 : Hid (∀ u, Calls Try.prog 46 #[.int .u64 m.cmd.node, .int .i64 1] u (NewB u (Num.fx 1 m.cmd.node.toNat))) := fun u => wfixed_any m.cmd.node 1 u (unhide HGD).cmd.node.1 (by have := (unhide HGD).cmd.node.2; omega) (by omega) (by omega)
                  have e7 := wrap64 (n := m.cmd.node) (unhide HGD).cmd.node.1 (by have := (unhide HGD).cmd.node.2; omega)
                  have HSU := hide (eldN_succ (m := m) (k := 3) (x := m.cmd.node) rfl)
                  go_wp2_with (first
                    | (go_at_call 46; (with_reducible refine Calls.mono (unhide HF3 _) ?_); go_must ((
                       rintro _ u1 ⟨A1, n1, c1, rfl, hn, ho, hb, hc⟩
                       have HPUT := hide (put1_bld (Nat.le_of_eq (unhide HGS)) (unhide HB1) hn ho hb (by rw [Num.fx_length]; have := unhide HLN; omega))
                       clear hn ho hb hc)))
                    | (go_at_call 45; go_must ((
                       refine Calls.mono (unhide HPUT) ?_
                       rintro _ w9 ⟨b9, rfl, hbld⟩
                       have HB9 := hide hbld
                       clear hbld))))
                  exact ⟨⟨4, by omega, rfl, by rw [unhide HSU]; exact unhide HB9⟩, by simp [intOf]⟩
                ·
                  have HF3 : Hid (∀ u, Calls Try.prog 46 #[.int .u64 m.cmd.mode, .int .i64 1] u (NewB u (Num.fx 1 m.cmd.mode.toNat))) := fun u => wfixed_any m.cmd.mode 1 u (unhide HGD).cmd.mode.1 (by have := (unhide HGD).cmd.mode.2; omega) (by omega) (by omega)
                  have e7 := wrap64 (n := m.cmd.mode) (unhide HGD).cmd.mode.1 (by have := (unhide HGD).cmd.mode.2; omega)
                  have HSU := hide (eldN_succ (m := m) (k := 4) (x := m.cmd.mode) rfl)
                  go_wp2_with (first
                    | (go_at_call 46; (with_reducible refine Calls.mono (unhide HF3 _) ?_); go_must ((
                       rintro _ u1 ⟨A1, n1, c1, rfl, hn, ho, hb, hc⟩
                       have HPUT := hide (put1_bld (Nat.le_of_eq (unhide HGS)) (unhide HB1) hn ho hb (by rw [Num.fx_length]; have := unhide HLN; omega))
                       clear hn ho hb hc)))
                    | (go_at_call 45; go_must ((
                       refine Calls.mono (unhide HPUT) ?_
                       rintro _ w9 ⟨b9, rfl, hbld⟩
                       have HB9 := hide hbld
                       clear hbld))))
                  exact ⟨⟨5, by omega, rfl, by rw [unhide HSU]; exact unhide HB9⟩, by simp [intOf]⟩
end Go.Proofs.Ytkgacehnpdijaaa
