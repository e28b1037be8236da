/- The document's copy of a message. -/
import Derived.Test.YtkgacehnpdijaaaWireTurn
namespace Go.Proofs.Ytkgacehnpdijaaa
set_option linter.unusedVariables false
set_option linter.unusedSimpArgs false
open Go.RowKit Wire

def CopyTo (m : Ms) (w : World) (e : Ending) (w' : World) : Prop :=
  ∃ A c vA vc, e = .returned (.agg (mcells m A c vA vc)) ∧ MOwn w' w.heap.size m A c vA vc ∧ Below w.heap.size w w'
theorem okq_of_own {w w0 : World} {base B0 : Nat} {m : Ms} {A A0 : Option Addr} {c c0 : Nat} {vA vA0 : Option Addr} {vc vc0 : Nat} (h : MOwn w base m A c vA vc) (h0 : Mq.Ok ⟨m, A0, c0, vA0, vc0⟩ w0 B0) : Mq.Ok ⟨m, A, c, vA, vc⟩ w w.heap.size :=
  ⟨RdV.of_own h.vers, RdV.of_own h.vec, (own_caps h.vers).1, h0.room, (own_caps h.vec).1, h0.vroom, h0.rng, h0.ints⟩
theorem vrow_one (l : List Vr) : ∀ u ∈ vrow l, u.oneCell' = true := by
  intro u hu
  obtain ⟨v, _, hv⟩ := List.mem_flatMap.1 hu
  exact vcs_one v u hv
theorem vec_one (l : List Int) : ∀ u ∈ l.map (Value.int .u64), u.oneCell' = true := by
  intro u hu
  obtain ⟨v, _, rfl⟩ := List.mem_map.1 hu
  rfl
set_option maxHeartbeats 4000000 in
set_option maxRecDepth 20000 in
theorem rcopy_any (m : Ms) (A : Option Addr) (c : Nat) (vA : Option Addr) (vc B : Nat) (w : World) (hok : Mq.Ok ⟨m, A, c, vA, vc⟩ w B) (hB : B ≤ w.heap.size) (h6 : m.vers.length ≤ 6000) (h7 : m.vec.length ≤ 6000) : Calls Try.prog 26 #[.agg (mcells m A c vA vc)] w (CopyTo m w) := by
  obtain ⟨i0, hi, hz0, hz1, hz2⟩ := info_parts verinfo
  obtain ⟨j0, hj, hj0, hj1, hj2⟩ := info_parts u64info
  have HOK := hide hok
  clear hok
  show Calls _ _ #[.agg #[.int .i64 m.kind, .int .u64 m.id, .int .u64 m.n, .int .u64 m.ts, .string m.lo, .string m.hi, .slice A m.vers.length c, .slice vA m.vec.length vc, .int .i64 m.cmd.kind, .int .i64 m.cmd.dc, .int .i64 m.cmd.shard, .int .i64 m.cmd.node, .int .i64 m.cmd.mode, .string m.cmd.key]] _ _
  go_enter Try.func26, Try.ntmps26
  go_upto_region 1 with fail
  obtain ⟨w1, hw1⟩ : ∃ u, (w.alloc (.cells (mcells m A c vA vc) 28)).alloc (.cells zeroMsg 28) = u := ⟨_, rfl⟩
  have hw1b : (w.alloc (.cells #[.int .i64 m.kind, .int .u64 m.id, .int .u64 m.n, .int .u64 m.ts, .string m.lo, .string m.hi, .slice A m.vers.length c, .slice vA m.vec.length vc, .int .i64 m.cmd.kind, .int .i64 m.cmd.dc, .int .i64 m.cmd.shard, .int .i64 m.cmd.node, .int .i64 m.cmd.mode, .string m.cmd.key] 28)).alloc (.cells zeroMsg 28) = w1 := hw1
  obtain ⟨p, hp⟩ : ∃ x, w.heap.size = x := ⟨_, rfl⟩
  obtain ⟨q, hq⟩ : ∃ x, p + 1 = x := ⟨_, rfl⟩
  have hm1 : Blk w1 p 28 (mcells m A c vA vc) := by rw [← hw1, ← hp]; exact (Blk.new w _ _).alloc _
  have hq1 : Blk w1 q 28 zeroMsg := by
    rw [← hw1, ← hq, ← hp]
    have h := Blk.new (w.alloc (.cells (mcells m A c vA vc) 28)) 28 zeroMsg
    rw [szA] at h
    exact h
  have hb1 : Below p w w1 := by rw [← hw1, ← hp]; exact ((Below.refl _ _).alloc (Nat.le_refl _) _).alloc (by simp) _
  rw [hp, hq, hw1b]
  have hpq : p ≠ q := by omega
  have hpq2 : p < q := by omega
  have hBp : B ≤ p := by omega
  have hwz : w.heap.size ≤ p := by omega
  have HP := hide hp
  have hsz1 : w1.heap.size = q + 1 := by rw [← hw1, szA, szA, hp, hq]
  have HX1 := hide ((unhide HOK).below (hb1.mono hBp))
  have HMv : Hid (Mem w1 w1 []) := hide (Mem.start w1)
  obtain ⟨x0, x1, x2, x3, x4, x5, x6, x7, x8, x9, x10, x11, x12, x13⟩ := mAt hm1
  have z6 := hm1.frozen 6
  have hpl := hm1.lt
  have HM1 := hide hm1; have HQ1 := hide hq1; have HB1 := hide hb1
  have HSZ := hide hsz1
  have hql : q < w1.heap.size := by omega
  clear hw1 hw1b hm1 hq1 hb1 hsz1 hp hq
  have HOn : Hid ((w1.alloc (.cells #[] 49)).ownsRow w1.heap.size 49 6 (.slice (some ⟨w1.heap.size, 0, none⟩) 0 0) 0 []) := hide (World.ownsRow_lit w1 #[] 0 (Nat.le_refl _) (by simp [maxLen]) rfl)
  have HRa := hide (((unhide HX1).vers).below (((Below.refl w1.heap.size w1).alloc (Nat.le_refl _) (.cells #[] 49)).mono (by omega)))
  go_upto_region 2 with (first
    | (at_builtin
       refine wpList_append_any _ rfl (.tmp 3) (.tmp 5) _ rfl w1.heap.size 49 i0 _ 6 64 Try.underlying23 hi hz0 hz1 hz2 rfl (by omega) _ 0 [] rfl (unhide HOn) _ A m.vers.length c (vrow m.vers) rfl (unhide HRa) (vrow_len m.vers) (vrow_one m.vers) (by simp only [maxLen]; omega) (by omega) (by simp) ?_
       intro A4 c4 w4 hown4 hg4 hat4 hbel4 hcc4
       rw [Nat.zero_add, List.nil_append] at hown4
       rw [Nat.zero_add] at hcc4 ⊢
       have hbel5 := ((Below.refl w1.heap.size w1).alloc (Nat.le_refl _) (.cells #[] 49)).trans hbel4
       have HV4 := hide hown4
       have hm4 := (unhide HM1).below hbel5 hpl
       have HM4 := hide hm4
       have HQ4 := hide ((unhide HQ1).below hbel5 hql)
       have HB4 := hide ((unhide HB1).trans (hbel5.mono (by omega)))
       have HX4 := hide (((unhide HX1).vec).below (hbel5.mono (by omega)))
       have x6 := hm4.cell 6
       have z6 := hm4.frozen 6
       have hpl4 := hm4.lt
       have hsz4 := hbel5.size
       clear hown4 hg4 hat4 hbel4 hbel5 hm4))
  have hm5 := (unhide HM4).set_ 6 (.slice A4 m.vers.length c4)
  have hq5 := (unhide HQ4).far (p := ⟨p, 6, none⟩) (by show q ≠ p; omega) (.slice A4 m.vers.length c4)
  have hb5 := (unhide HB4).setCell (p := ⟨p, 6, none⟩) (Nat.le_refl p) (.slice A4 m.vers.length c4)
  have ho5 := (Only.refl (fun k => k = p) w4).setCell (p := ⟨p, 6, none⟩) rfl (.slice A4 m.vers.length c4)
  have hv5 := own_only (unhide HV4) ho5 (fun k hk e => by have := ((unhide HV4).lt k hk).1; omega)
  have hx5 := (unhide HX4).keep (w' := w4.setCell ⟨p, 6, none⟩ (.slice A4 m.vers.length c4)) (fun a ha => ho5.cell (by omega) (fun e => by have : a.block = p := e; omega))
  have hs5 := ho5.size
  obtain ⟨w5, hw5⟩ : ∃ u, w4.setCell ⟨p, 6, none⟩ (.slice A4 m.vers.length c4) = u := ⟨_, rfl⟩
  rw [hw5] at hm5 hq5 hb5 hv5 hx5 hs5 ⊢
  have x7 : w5.cell? ⟨p, 7, none⟩ = some (.slice vA m.vec.length vc) := hm5.cell 7
  have z7 := hm5.frozen 7
  have hpl5 := hm5.lt
  have hql5 := hq5.lt
  have HM5 := hide hm5; have HQ5 := hide hq5; have HB5 := hide hb5; have HV5 := hide hv5
  have HXa := hide (hx5.below (((Below.refl w5.heap.size w5).alloc (Nat.le_refl _) (.cells #[] 22)).mono (by omega)))
  clear hw5 ho5 hm5 hq5 hb5 hv5 hx5 HOn HRa HX4 HM4 HQ4 HB4 HV4
  have HOn : Hid ((w5.alloc (.cells #[] 22)).ownsRow w5.heap.size 22 1 (.slice (some ⟨w5.heap.size, 0, none⟩) 0 0) 0 []) := hide (own_new w5 w5.heap.size #[] 22 0 [] (Nat.le_refl _) (by simp [maxLen]) rfl rfl)
  go_upto_region 3 with (first
    | (at_builtin
       refine wpList_append_any _ rfl (.tmp 8) (.tmp 10) _ rfl w5.heap.size 22 j0 _ 1 8 Try.underlying24 hj hj0 hj1 hj2 rfl (by omega) _ 0 [] rfl (unhide HOn) _ vA m.vec.length vc (m.vec.map (Value.int .u64)) rfl (unhide HXa) (by rw [List.length_map]; omega) (vec_one m.vec) (by simp only [maxLen]; omega) (by omega) (by simp) ?_
       intro A6 c6 w6 hown6 hg6 hat6 hbel6 hcc6
       rw [Nat.zero_add, List.nil_append] at hown6
       rw [Nat.zero_add] at hcc6 ⊢
       have hbel7 := ((Below.refl w5.heap.size w5).alloc (Nat.le_refl _) (.cells #[] 22)).trans hbel6
       have HV6 := hide hown6
       have hm6 := (unhide HM5).below hbel7 hpl5
       have HM6 := hide hm6
       have HQ6 := hide ((unhide HQ5).below hbel7 hql5)
       have HB6 := hide ((unhide HB5).trans (hbel7.mono (by omega)))
       have HW6 := hide (own_only (unhide HV5) (Only.of_new (S := fun _ => False) hbel7) (fun _ _ h => h))
       have x7 := hm6.cell 7
       have z7 := hm6.frozen 7
       have hpl6 := hm6.lt
       have hsz6 := hbel7.size
       clear hown6 hg6 hat6 hbel6 hbel7 hm6))
  have hm7 := (unhide HM6).set_ 7 (.slice A6 m.vec.length c6)
  have hq7 := (unhide HQ6).far (p := ⟨p, 7, none⟩) (by show q ≠ p; omega) (.slice A6 m.vec.length c6)
  have hb7 := (unhide HB6).setCell (p := ⟨p, 7, none⟩) (Nat.le_refl p) (.slice A6 m.vec.length c6)
  have ho7 := (Only.refl (fun k => k = p) w6).setCell (p := ⟨p, 7, none⟩) rfl (.slice A6 m.vec.length c6)
  have hv7 := own_only (unhide HV6) ho7 (fun k hk e => by have := ((unhide HV6).lt k hk).1; omega)
  have hw7 := own_only (unhide HW6) ho7 (fun k hk e => by have := ((unhide HW6).lt k hk).1; omega)
  obtain ⟨w7, hw7e⟩ : ∃ u, w6.setCell ⟨p, 7, none⟩ (.slice A6 m.vec.length c6) = u := ⟨_, rfl⟩
  rw [hw7e] at hm7 hq7 hb7 hv7 hw7 ⊢
  have HM7 : Hid (Blk w7 p 28 (mcells m A4 c4 A6 c6)) := hide hm7
  have HQ7 := hide hq7; have HB7 := hide hb7; have HV7 := hide hv7; have HW7 := hide hw7
  clear hw7e ho7 hm7 hq7 hb7 hv7 hw7 HOn HXa HM6 HQ6 HB6 HV6 HW6 x0 x1 x2 x3 x4 x5 x6 x7 x8 x9 x10 x11 x12 x13
  go_wp2_with (first
    | refine wpList_load_blk rfl 28 (.tmp 1) rfl (p) rfl 28 _ _ ((unhide HM7)) Try.underlying28 rfl (by kernel_rfl) ?_
    | (refine wpList_store_blk rfl 28 (.tmp 2) (.tmp 13) rfl q (mcells m A4 c4 A6 c6) (by rfl) (by rfl) 28 _ (unhide HQ7) (by kernel_rfl) rfl (by kernel_rfl) ?_
       intro w8 hb8 hg8
       have HQ8 := hide hb8
       have HG8 := hide hg8
       clear hb8 hg8))
  have hog : Only (fun j => j = q) w7 w8 := Only.of_grown (unhide HG8) (fun k hk => by injection hk with hk; exact hk.symm)
  exact bodyPost_ret (results_cell_row rfl _ _ q 28 _ (0, 0) _ rfl (unhide HQ8) Try.underlying28 rfl (by kernel_rfl)) rfl ⟨A4, c4, A6, c6, rfl,
    ⟨own_more (own_only (unhide HW7) hog (fun k hk e => by have := ((unhide HW7).lt k hk).1; omega)) (fun k hk => by have := ((unhide HW7).lt k hk).1; have := unhide HP; omega), own_more (own_only (unhide HV7) hog (fun k hk e => by have := ((unhide HV7).lt k hk).1; omega)) (fun k hk => by have := ((unhide HV7).lt k hk).1; have := unhide HP; omega)⟩,
    below_only (by rw [unhide HP]; exact unhide HB7) (Nat.le_refl _) hog (fun k hk => by rw [hk]; have := unhide HP; omega)⟩
end Go.Proofs.Ytkgacehnpdijaaa
