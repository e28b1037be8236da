/- Turn; the walk of WireTurns. -/
import Derived.Test.YtkgacehnpdijaaaWireDecA
import Derived.Test.YtkgacehnpdijaaaWireSame
namespace Go.Proofs.Ytkgacehnpdijaaa
set_option linter.unusedVariables false
set_option linter.unusedSimpArgs false
open Go.RowKit Wire

theorem Mem.low {W w w' : World} {L : Known} {B : Nat} (h : Mem W w L) (hb : Below B w w') (hL : ∀ p ∈ L, p.1 < B) (hW : W.heap.size ≤ B) : Mem W w' L :=
  ⟨h.below.trans (hb.mono hW), fun p hp => (h.blk p hp).below hb (hL p hp), h.ge, h.apart⟩
theorem Mem.drop1 {W w : World} {p q : Nat × TypeId × Array Value} {L : Known} (h : Mem W w (p :: q :: L)) : Mem W w (p :: L) :=
  ⟨h.below, fun r hr => h.blk r (by rcases List.mem_cons.1 hr with rfl | hr <;> simp [*]), fun r hr => h.ge r (by rcases List.mem_cons.1 hr with rfl | hr <;> simp [*]), by
    have ha := h.apart
    simp only [List.map_cons, List.nodup_cons, List.mem_cons, not_or] at ha ⊢
    exact ⟨ha.1.2, ha.2.2⟩⟩
/-- what Turn answers -/
def turnE (f t : Int) (b : List UInt8) : Int := if decE f b ≠ 0 then decE f b else encE t (decM f b)
def turnB (f t : Int) (b : List UInt8) : List UInt8 := if decE f b ≠ 0 then [] else encB t (decM f b)
theorem turn_bad {f t : Int} {b : List UInt8} {E : Int} (hE : decE f b = E) (h : E ≠ 0) : turnE f t b = E ∧ turnB f t b = [] := by
  subst hE
  exact ⟨if_pos h, if_pos h⟩
theorem turn_good {f t : Int} {b : List UInt8} {M : Ms} (hM : decM f b = M) (hE : decE f b = 0) : turnE f t b = encE t M ∧ turnB f t b = encB t M := by
  subst hM
  exact ⟨if_neg (by rw [hE]; decide), if_neg (by rw [hE]; decide)⟩
theorem encTo_nil {E : Int} {w w' : World} (hb : Below w.heap.size w w') : EncTo E [] w (.returned (.tuple #[.slice none 0 0, .int .i64 E])) w' := ⟨none, 0, 0, rfl, rfl, own_nil _ _ _ _, hb, Nat.le_refl _⟩
theorem EncTo.back {E : Int} {l : List UInt8} {w u w' : World} {e : Ending} (hb : Below w.heap.size w u) (h : EncTo E l u e w') : EncTo E l w e w' := by
  obtain ⟨A, n, c, h1, h2, h3, h4, h5⟩ := h
  exact ⟨A, n, c, h1, h2, own_more h3 fun k hk => Nat.le_trans hb.size (h3.lt k hk).1, hb.trans (h4.mono hb.size), h5⟩
set_option maxHeartbeats 4000000 in
set_option maxRecDepth 20000 in
theorem turn_any (f t : Int) (b : List UInt8) (A : Option Addr) (c B : Nat) (w : World) (hr : RdB w B A b) (hB : B ≤ w.heap.size) (hc : b.length ≤ c) (hm : c ≤ 9223372036854775807 ∧ b.length ≤ 140737488351232) : Calls Try.prog 27 #[.int .i64 f, .int .i64 t, .slice A b.length c] w (EncTo (turnE f t b) (turnB f t b) w) := by
  obtain ⟨M, hM⟩ : ∃ x, decM f b = x := ⟨_, rfl⟩
  obtain ⟨E, hE⟩ : ∃ x, decE f b = x := ⟨_, rfl⟩
  obtain ⟨E2, hE2⟩ : ∃ x, turnE f t b = x := ⟨_, rfl⟩
  obtain ⟨B2, hB2⟩ : ∃ x, turnB f t b = x := ⟨_, rfl⟩
  rw [hE2, hB2]
  have HD := hide (decode_to hM hE A c B w hr hB hc hm)
  have HM0 := hide (Mem.start w)
  have hT : (E ≠ 0 ∧ E2 = E ∧ B2 = []) ∨ (E = 0 ∧ encE t M = E2 ∧ encB t M = B2) := by
    by_cases h : E = 0
    · rw [h] at hE
      have h2 := turn_good (t := t) hM hE
      exact .inr ⟨h, h2.1.symm.trans hE2, h2.2.symm.trans hB2⟩
    · have h2 := turn_bad (t := t) hE h
      exact .inl ⟨h, hE2.symm.trans h2.1, hB2.symm.trans h2.2⟩
  have HT := hide hT
  clear hM hE hr hc hm hE2 hB2 hT
  go_enter Try.func27, Try.ntmps27
  go_upto_region 2 with (go_at_call 24; (with_reducible refine Calls.mono (unhide HD) ?_); go_must ((
     rintro _ u1 ⟨A1, c1, vA1, vc1, rfl, hok, _, hb⟩
     have HK1 := hide hok
     have HM1 := hide ((unhide HM0).called hb)
     clear hok hb)))
  obtain ⟨g1, hg1⟩ : ∃ x, u1.heap.size = x := ⟨_, rfl⟩
  have HM2 := hide ((unhide HM1).new (t := 28) (cs := mcells M A1 c1 vA1 vc1) g1 hg1)
  have HK2 := hide ((unhide HK1).below ((Below.refl _ _).alloc (Nat.le_refl _) (.cells (mcells M A1 c1 vA1 vc1) 28)))
  obtain ⟨w1, hw1⟩ : ∃ u, u1.alloc (.cells (mcells M A1 c1 vA1 vc1) 28) = u := ⟨_, rfl⟩
  have hw1b : u1.alloc (.cells #[.int .i64 M.kind, .int .u64 M.id, .int .u64 M.n, .int .u64 M.ts, .string M.lo, .string M.hi, .slice A1 M.vers.length c1, .slice vA1 M.vec.length vc1, .int .i64 M.cmd.kind, .int .i64 M.cmd.dc, .int .i64 M.cmd.shard, .int .i64 M.cmd.node, .int .i64 M.cmd.mode, .string M.cmd.key] 28) = w1 := hw1
  have hz1 : u1.heap.size ≤ w1.heap.size := by rw [← hw1]; simp
  rw [hw1] at HM2 HK2
  rw [hg1] at HK2 hz1
  rw [hg1, hw1b]
  clear hg1 hw1 hw1b HM1 HK1
  rcases unhide HT with ⟨h0, rfl, rfl⟩ | ⟨rfl, h1, h2⟩
  · have ge : (E2 != 0) = true := by simp [h0]
    clear h0
    go_wp2_with fail
    go_ret2
    exact encTo_nil (unhide HM2).below
  · have HEN : Hid (∀ u, Mq.Ok ⟨M, A1, c1, vA1, vc1⟩ u g1 → g1 ≤ u.heap.size → Calls Try.prog 14 #[.int .i64 t, .agg #[.int .i64 M.kind, .int .u64 M.id, .int .u64 M.n, .int .u64 M.ts, .string M.lo, .string M.hi, .slice A1 M.vers.length c1, .slice vA1 M.vec.length vc1, .int .i64 M.cmd.kind, .int .i64 M.cmd.dc, .int .i64 M.cmd.shard, .int .i64 M.cmd.node, .int .i64 M.cmd.mode, .string M.cmd.key]] u (EncTo E2 B2 u)) := hide (fun u hk hg => (encode_any t M A1 c1 vA1 vc1 g1 u hk hg).mono fun e w' h => h.to h1 h2)
    clear h1 h2
    go_wp2_with (first
      | refine wpList_load_blk rfl 28 (.tmp 8) rfl (g1) rfl 28 _ _ ((unhide HM2).blk0) Try.underlying28 rfl (by kernel_rfl) ?_
      | (go_at_call 14; (with_reducible refine Calls.mono (unhide HEN _ (unhide HK2) hz1) ?_); go_must ((
         rintro e3 u3 hout
         have HOUT := hide hout
         obtain ⟨A3, n3, c3, rfl, _⟩ := hout))))
    go_ret2
    exact (unhide HOUT).back (unhide HM2).below
theorem encB_len {v : Int} {m : Ms} (hr : Rng m) : (encB v m).length ≤ 830000 := by
  by_cases he : encE v m = 0
  · rw [encB_ok he]
    have hv : v = 1 ∨ v = 2 := by
      refine Classical.byContradiction fun h => ?_
      have := encE_other (v := v) (m := m) (by omega)
      omega
    have hg : Wire.Good m := (chk_iff m).1 ((encE_one hv).symm.trans he)
    rcases hv with rfl | rfl
    · rw [enc1 m hr]
      have a := eldN_len hg 5
      have b := tx1_len (s := m.cmd.key) (by have := hg.cmd.key; rw [size_list'] at this; omega)
      unfold eldOf
      rw [List.length_append]
      omega
    · rw [enc2 2 (by decide)]
      have a := new8_len hg hr
      have b : (newHead m).length = 2 := rfl
      unfold newOf
      rw [List.length_append]
      omega
  · rw [encB_bad he]; simp
theorem decode_n {v : Int} {b : List UInt8} {M : Ms} {E : Int} (hM : decM v b = M) (hE : decE v b = E) (A : Option Addr) (c B n : Nat) (hn : b.length = n) (w : World) (hr : RdB w B A b) (hB : B ≤ w.heap.size) (hc : n ≤ c) (hm : c ≤ 9223372036854775807 ∧ n ≤ 140737488351232) : Calls Try.prog 24 #[.int .i64 v, .slice A n c] w (DecTo M E w) := by
  subst hn
  exact decode_to hM hE A c B w hr hB hc hm
theorem rdecode_n {v : Int} {b : List UInt8} {M : Ms} {E : Int} (hM : decM v b = M) (hE : decE v b = E) (A : Option Addr) (c B n : Nat) (hn : b.length = n) (w : World) (hr : RdB w B A b) (hB : B ≤ w.heap.size) (hc : n ≤ c) (hm : c ≤ 9223372036854775807 ∧ n ≤ 140737488351232) : Calls Try.prog 25 #[.int .i64 v, .slice A n c] w (DecTo M E w) := by
  subst hn
  exact rdecode_to hM hE A c B w hr hB hc hm
/-- a body is never empty -/
theorem encOf_pos {v : Int} (hv : v = 1 ∨ v = 2) {m : Ms} (hr : Rng m) : 0 < (encOf v m).length := by
  rcases hv with rfl | rfl
  · rw [enc1 m hr]
    unfold eldOf eldN eldW eldC1 eldV eldHead
    simp
  · rw [enc2 2 (by decide)]
    unfold newOf
    rw [List.length_append, show (newHead m).length = 2 from rfl]
    omega
/-- a good message goes through -/
theorem enc_dec {v : Int} (hv : v = 1 ∨ v = 2) {m : Ms} (hg : chkOf m = 0) (hr : Rng m) : decM v (encOf v m) = m ∧ decE v (encOf v m) = 0 :=
  dec_good hv (dec_enc ((ok_iff v m).2 ⟨(chk_iff m).1 hg, hr⟩))
theorem enc_dec_more {v : Int} (hv : v = 1 ∨ v = 2) {m : Ms} (hg : chkOf m = 0) (hr : Rng m) (x : UInt8) : decM v (encOf v m ++ [x]) = ms0 ∧ decE v (encOf v m ++ [x]) = 3 :=
  dec_bad hv (dec_more ((ok_iff v m).2 ⟨(chk_iff m).1 hg, hr⟩) x)
theorem enc_dec_cut {v : Int} (hv : v = 1 ∨ v = 2) {m : Ms} (hg : chkOf m = 0) (hr : Rng m) {n : Nat} (hn : (encOf v m).length = n + 1) : decM v ((encOf v m).take n) = ms0 ∧ decE v ((encOf v m).take n) ≠ 0 := by
  rcases dec_cases v ((encOf v m).take n) with ⟨h1, h2⟩ | ⟨_, _, h3, _⟩
  · exact ⟨h2, h1⟩
  · exact absurd h3 (dec_cut ((ok_iff v m).2 ⟨(chk_iff m).1 hg, hr⟩) (by omega) _)
end Go.Proofs.Ytkgacehnpdijaaa
