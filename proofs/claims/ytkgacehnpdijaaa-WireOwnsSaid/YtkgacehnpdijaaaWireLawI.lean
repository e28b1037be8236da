/- The walk of WireOwns. -/
import Derived.Test.YtkgacehnpdijaaaWireCopy
namespace Go.Proofs.Ytkgacehnpdijaaa
set_option linter.unusedVariables false
set_option linter.unusedSimpArgs false
open Go.RowKit Wire

theorem own_types {w : World} {b1 b2 e1 e2 s1 s2 n1 n2 g c1 : Nat} {v : Value} {xs ys : List Value} (h1 : w.ownsRow b1 e1 s1 (.slice (some ⟨g, 0, none⟩) n1 c1) n1 xs) (h2 : w.ownsRow b2 e2 s2 v n2 ys) (hv : v.ownBlock = some g) (hne : e1 ≠ e2) : False := by
  rcases h1.2 with ⟨h, _⟩ | ⟨g1, cap1, cur1, e, _, hg1, _⟩
  · cases h
  · injection e with e _ _
    injection e with e
    injection e with e _ _
    subst e
    rcases h2.2 with ⟨rfl, _⟩ | ⟨g2, cap2, cur2, rfl, _, hg2, _⟩
    · cases hv
    · have hv : some g2 = some g := hv
      injection hv with hv
      subst hv
      rw [hg1] at hg2
      injection hg2 with hg2
      injection hg2 with _ hg2 _
      exact hne hg2
theorem own_apart {w : World} {b1 b2 e1 e2 s1 s2 n1 n2 k : Nat} {v1 v2 : Value} {xs ys : List Value} (h1 : w.ownsRow b1 e1 s1 v1 n1 xs) (h2 : w.ownsRow b2 e2 s2 v2 n2 ys) (hne : e1 ≠ e2) (hk1 : v1.ownBlock = some k) (hk2 : v2.ownBlock = some k) : False := by
  rcases h1.2 with ⟨rfl, _⟩ | ⟨g1, cap1, cur1, rfl, _⟩
  · cases hk1
  · have hk1 : some g1 = some k := hk1
    injection hk1 with hk1
    subst hk1
    exact own_types h1 h2 hk2 hne
theorem okq_only {w w' : World} {q : Mq} {B : Nat} {S : Nat → Prop} (h : q.Ok w B) (ho : Only S w w') (hB : B ≤ w.heap.size) (hs : ∀ k, k < B → ¬ S k) : q.Ok w' B :=
  { h with vers := h.vers.keep fun p hp => ho.cell (Nat.lt_of_lt_of_le hp hB) (hs _ hp), vec := h.vec.keep fun p hp => ho.cell (Nat.lt_of_lt_of_le hp hB) (hs _ hp) }
/-- a row with numbers, or flags, at all places -/
def Flags (L : List Value) (N : Nat) : Prop := ∀ j, j < N → ∃ g : Bool, L[j * 6 + 2]? = some (.bool g)
def Ints (k : IntKind) (L : List Value) (N : Nat) : Prop := ∀ j, j < N → ∃ g : Int, L[j]? = some (.int k g)
theorem Flags.set {L : List Value} {N : Nat} (h : Flags L N) (i : Nat) (g : Bool) : Flags (L.set (i * 6 + 2) (.bool g)) N := fun j hj => by
  obtain ⟨x, hx⟩ := h j hj
  by_cases e : i * 6 + 2 = j * 6 + 2
  · rw [e]
    exact ⟨g, List.getElem?_set_self (List.getElem?_eq_some_iff.1 hx).1⟩
  · exact ⟨x, by rw [List.getElem?_set_ne e]; exact hx⟩
theorem Ints.set {k : IntKind} {L : List Value} {N : Nat} (h : Ints k L N) (i : Nat) (g : Int) : Ints k (L.set i (.int k g)) N := fun j hj => by
  obtain ⟨x, hx⟩ := h j hj
  by_cases e : i = j
  · rw [e]
    exact ⟨g, List.getElem?_set_self (List.getElem?_eq_some_iff.1 hx).1⟩
  · exact ⟨x, by rw [List.getElem?_set_ne e]; exact hx⟩
theorem flags_vrow (l : List Vr) : Flags (vrow l) l.length := fun j hj => ⟨l[j].gone, vrow_at (List.getElem?_eq_getElem hj) (j := 2) (by omega)⟩
theorem ints_vec (l : List Int) : Ints .u64 (l.map (Value.int .u64)) l.length := fun j hj => ⟨l[j], by rw [List.getElem?_map, List.getElem?_eq_getElem hj]; rfl⟩
theorem ints_b (l : List UInt8) : Ints .u8 (l.map Bv) l.length := fun j hj => ⟨(l[j].toNat : Int), by rw [List.getElem?_map, List.getElem?_eq_getElem hj]; rfl⟩
set_option maxHeartbeats 8000000 in
set_option maxRecDepth 20000 in
theorem wireOwns_any (m : Ms) (A : Option Addr) (c : Nat) (vA : Option Addr) (vc : Nat) (w : World) (hok : Mq.Ok ⟨m, A, c, vA, vc⟩ w w.heap.size) : Calls Try.prog 10 #[.agg (mcells m A c vA vc)] w fun e w' => e = .returned (.bool true) ∧ Below w.heap.size w w' := by
  have HM0 := hide ((Mem.start w).new (t := 28) (cs := mcells m A c vA vc) w.heap.size rfl)
  obtain ⟨w1, hw1⟩ : ∃ u, w.alloc (.cells (mcells m A c vA vc) 28) = u := ⟨_, rfl⟩
  obtain ⟨g, hgs⟩ : ∃ g, w.heap.size = g := ⟨_, rfl⟩
  rw [hw1, hgs] at HM0
  have HGS := hide hgs
  have HOK := hide hok
  have HRG : Hid (Rng m) := hide hok.rng
  obtain ⟨gr, hgr⟩ : ∃ r, greatB m = r := ⟨_, rfl⟩
  obtain ⟨E, hE⟩ : ∃ r, encE 2 m = r := ⟨_, rfl⟩
  obtain ⟨L, hL⟩ : ∃ r, encB 2 m = r := ⟨_, rfl⟩
  obtain ⟨n, hn⟩ : ∃ r, L.length = r := ⟨_, rfl⟩
  have HGR : Hid (∀ u, Calls Try.prog 12 #[.agg #[.int .i64 m.kind, .int .u64 m.id, .int .u64 m.n, .int .u64 m.ts, .string m.lo, .string m.hi, .slice A m.vers.length c, .slice vA m.vec.length vc, .int .i64 m.cmd.kind, .int .i64 m.cmd.dc, .int .i64 m.cmd.shard, .int .i64 m.cmd.node, .int .i64 m.cmd.mode, .string m.cmd.key]] u fun e w' => e = .returned (.bool gr) ∧ Below u.heap.size u w') := hide (fun u => by rw [← hgr]; exact great_any m A c vA vc u)
  have HEN : Hid (∀ u, Below g w u → Calls Try.prog 14 #[.int .i64 2, .agg #[.int .i64 m.kind, .int .u64 m.id, .int .u64 m.n, .int .u64 m.ts, .string m.lo, .string m.hi, .slice A m.vers.length c, .slice vA m.vec.length vc, .int .i64 m.cmd.kind, .int .i64 m.cmd.dc, .int .i64 m.cmd.shard, .int .i64 m.cmd.node, .int .i64 m.cmd.mode, .string m.cmd.key]] u (EncTo E L u)) := hide (fun u h => by rw [← hgs] at h; exact (encode_any 2 m A c vA vc w.heap.size u (hok.below h) h.size).mono fun e w' hh => hh.to hE hL)
  have HA := hide (fun u => awake_any u)
  have hnl : n ≤ 830000 := by rw [← hn, ← hL]; exact encB_len hok.rng
  have HN := hide hn
  have HEV := hide hE
  have HLV := hide hL
  have HGV := hide hgr
  clear hok hgr hE hL hn
  show Calls _ _ #[.agg #[.int .i64 m.kind, .int .u64 m.id, .int .u64 m.n, .int .u64 m.ts, .string m.lo, .string m.hi, .slice A m.vers.length c, .slice vA m.vec.length vc, .int .i64 m.cmd.kind, .int .i64 m.cmd.dc, .int .i64 m.cmd.shard, .int .i64 m.cmd.node, .int .i64 m.cmd.mode, .string m.cmd.key]] _ _
  obtain ⟨x0, x1, x2, x3, x4, x5, x6, x7, x8, x9, x10, x11, x12, x13⟩ := mAt (unhide HM0).blk0
  cases gr
  rotate_left
  · go_enter Try.func10, Try.ntmps10
    go_wp2_with (first
      | (go_at_call 12; (with_reducible refine Calls.mono (unhide HGR _) ?_); go_must ((
         rintro _ u1 ⟨rfl, hb⟩
         have HM1 := hide ((unhide HM0).called hb)
         clear hb)))
      | (go_at_call 13; (with_reducible refine Calls.mono (unhide HA _) ?_); go_must ((
         rintro _ u2 ⟨rfl, hb⟩
         have HM2 := hide ((unhide HM1).called hb)
         clear hb))))
    go_ret
    exact ⟨rfl, by have h := (unhide HM2).below; first | exact h | (rw [unhide HGS] at h; exact h)⟩
  have hgv := unhide HGV
  unfold greatB at hgv
  rw [Bool.or_eq_false_iff, decide_eq_false_iff_not, decide_eq_false_iff_not] at hgv
  have h6 : m.vers.length ≤ 6000 := by omega
  have h7 : m.vec.length ≤ 6000 := by omega
  have HCP : Hid (∀ u, Below g w u → Calls Try.prog 26 #[.agg #[.int .i64 m.kind, .int .u64 m.id, .int .u64 m.n, .int .u64 m.ts, .string m.lo, .string m.hi, .slice A m.vers.length c, .slice vA m.vec.length vc, .int .i64 m.cmd.kind, .int .i64 m.cmd.dc, .int .i64 m.cmd.shard, .int .i64 m.cmd.node, .int .i64 m.cmd.mode, .string m.cmd.key]] u (CopyTo m u)) := hide (fun u h => by rw [← hgs] at h; exact rcopy_any m A c vA vc w.heap.size u ((unhide HOK).below h) h.size h6 h7)
  clear hgv
  go_enter Try.func10, Try.ntmps10
  go_upto_region 4 with (first
    | (go_at_call 12; (with_reducible refine Calls.mono (unhide HGR _) ?_); go_must ((
       rintro _ u1 ⟨rfl, hb⟩
       have HM1 := hide ((unhide HM0).called hb)
       obtain ⟨x0, x1, x2, x3, x4, x5, x6, x7, x8, x9, x10, x11, x12, x13⟩ := mAt (unhide HM1).blk0
       clear hb)))
    | (go_at_call 26; (with_reducible refine Calls.mono (unhide HCP _ (by have h := (unhide HM1).below; first | exact h | (rw [unhide HGS] at h; exact h))) ?_); go_must ((
       rintro _ u2 ⟨A3, c3, vA3, vc3, rfl, how, hb⟩
       have HM2 := hide ((unhide HM1).called hb)
       have HK2 := hide (okq_of_own how (unhide HOK))
       clear how hb))))
  clear x0 x1 x2 x3 x4 x5 x6 x7 x8 x9 x10 x11 x12 x13 hgs hw1
  obtain ⟨p3, hg1⟩ : ∃ x, u2.heap.size = x := ⟨_, rfl⟩
  have HM3 := hide ((unhide HM2).new (t := 28) (cs := mcells m A3 c3 vA3 vc3) p3 hg1)
  obtain ⟨y3, hw1⟩ : ∃ u, u2.alloc (.cells (mcells m A3 c3 vA3 vc3) 28) = u := ⟨_, rfl⟩
  have hw1b : u2.alloc (.cells #[.int .i64 m.kind, .int .u64 m.id, .int .u64 m.n, .int .u64 m.ts, .string m.lo, .string m.hi, .slice A3 m.vers.length c3, .slice vA3 m.vec.length vc3, .int .i64 m.cmd.kind, .int .i64 m.cmd.dc, .int .i64 m.cmd.shard, .int .i64 m.cmd.node, .int .i64 m.cmd.mode, .string m.cmd.key] 28) = y3 := hw1
  have HBLa : Hid (Below u2.heap.size u2 y3) := hide (by rw [← hw1]; exact (Below.refl _ _).alloc (Nat.le_refl _) _)
  have hgsa : y3.heap.size = p3 + 1 := by rw [← hw1, szA, hg1]
  have HGa := hide hg1
  have hlea := Nat.le_of_eq hg1
  have hgea := Nat.le_of_eq hg1.symm
  rw [hw1] at HM3
  rw [hg1, hw1b]
  clear hw1 hw1b hg1
  have HK3 := hide ((unhide HK2).below (unhide HBLa))
  rw [unhide HGa] at HK3
  have hgp3 : g < p3 := by have h := (unhide HM2).blk0.lt; have e := unhide HGa; omega
  clear HK2 HM2 HM1 HM0 HBLa
  obtain ⟨x0, x1, x2, x3, x4, x5, x6, x7, x8, x9, x10, x11, x12, x13⟩ := mAt (unhide HM3).blk1
  go_upto_region 5 with (go_at_call 14; (with_reducible refine Calls.mono (unhide HEN _ (by have h := (unhide HM3).below; first | exact h | (rw [unhide HGS] at h; exact h))) ?_); go_must ((
     rintro _ u4 ⟨A4, n4, c4, rfl, hn4, ho4, hb4, hc4⟩
     rw [unhide HN] at hn4
     subst hn4
     have HM4 := hide ((unhide HM3).called hb4)
     have HK4 := hide ((unhide HK3).below (hb4.mono (by omega)))
     have HO4 := hide ho4
     have HC4 := hide (show n ≤ c4 ∧ c4 ≤ 9223372036854775807 from ⟨hc4, (own_caps ho4).2⟩)
     have hz4 := hb4.size
     clear ho4 hb4 hc4)))
  clear x0 x1 x2 x3 x4 x5 x6 x7 x8 x9 x10 x11 x12 x13
  by_cases hE0 : E = 0
  rotate_left
  · have gE : (E != 0) = true := by simp [hE0]
    clear hE0
    go_wp2_with (first
      | (go_at_call 13; (with_reducible refine Calls.mono (unhide HA _) ?_); go_must ((
         rintro _ u5 ⟨rfl, hb⟩
         have HM5 := hide ((unhide HM4).called hb)
         have HK5 := hide ((unhide HK4).below (hb.mono (by omega)))
         have hz5 := hb.size
         obtain ⟨x0, x1, x2, x3, x4, x5, x6, x7, x8, x9, x10, x11, x12, x13⟩ := mAt (unhide HM5).blk1
         obtain ⟨y0, y1, y2, y3, y4, y5, y6, y7, y8, y9, y10, y11, y12, y13⟩ := mAt (unhide HM5).blk0
         clear hb)))
      | (go_at_call 19; go_must ((
         refine Calls.mono (same_msg m m true (by simp) A c vA vc A3 c3 vA3 vc3 _ _ _ ((unhide HOK).below (by have h := (unhide HM5).below; first | exact h | (rw [unhide HGS] at h; exact h))) (unhide HK5) (by have h := (unhide HM5).below.size; omega) (by omega)) ?_
         rintro _ u6 ⟨rfl, hb⟩
         have HM6 := hide ((unhide HM5).called hb)
         clear hb))))
    go_ret
    exact ⟨rfl, by have h := (unhide HM6).below; first | exact h | (rw [unhide HGS] at h; exact h)⟩
  subst hE0
  have hchk : chkOf m = 0 := (encE_one (v := 2) (.inr rfl)).symm.trans (unhide HEV)
  have hLe : L = encOf 2 m := (unhide HLV).symm.trans (encB_ok (unhide HEV))
  have hdd := enc_dec (v := 2) (.inr rfl) hchk (unhide HRG)
  rw [← hLe] at hdd
  have HD : Hid (∀ u B A c, RdB u B A L → B ≤ u.heap.size → n ≤ c → c ≤ 9223372036854775807 → Calls Try.prog 24 #[.int .i64 2, .slice A n c] u (DecTo m 0 u)) := hide (fun u B A c h1 hB h2 h3 => decode_n hdd.1 hdd.2 A c B n (unhide HN) u h1 hB h2 ⟨h3, by omega⟩)
  clear hdd hLe hchk
  go_upto_region 8 with (go_at_call 24; (with_reducible refine Calls.mono (unhide HD _ _ _ _ ((RdV.of_own (unhide HO4)).b) (Nat.le_refl _) (unhide HC4).1 (unhide HC4).2) ?_); go_must ((
     rintro _ u6 ⟨A6, c6, vA6, vc6, rfl, _, how, hb⟩
     have HM6 := hide ((unhide HM4).called hb)
     have HW6 := hide how
     have HK6 := hide ((unhide HK4).below (hb.mono (by omega)))
     have HO6 := hide (own_only (unhide HO4) (Only.of_new (S := fun _ => False) hb) (fun _ _ h => h))
     have hz6 := hb.size
     have HL4 := hide (fun k hk => ((unhide HO4).lt k hk))
     clear how hb)))
  obtain ⟨p6, hg1⟩ : ∃ x, u6.heap.size = x := ⟨_, rfl⟩
  have HM7 := hide ((unhide HM6).new (t := 28) (cs := mcells m A6 c6 vA6 vc6) p6 hg1)
  obtain ⟨y6, hw1⟩ : ∃ u, u6.alloc (.cells (mcells m A6 c6 vA6 vc6) 28) = u := ⟨_, rfl⟩
  have hw1b : u6.alloc (.cells #[.int .i64 m.kind, .int .u64 m.id, .int .u64 m.n, .int .u64 m.ts, .string m.lo, .string m.hi, .slice A6 m.vers.length c6, .slice vA6 m.vec.length vc6, .int .i64 m.cmd.kind, .int .i64 m.cmd.dc, .int .i64 m.cmd.shard, .int .i64 m.cmd.node, .int .i64 m.cmd.mode, .string m.cmd.key] 28) = y6 := hw1
  have HBLb : Hid (Below u6.heap.size u6 y6) := hide (by rw [← hw1]; exact (Below.refl _ _).alloc (Nat.le_refl _) _)
  have hgsb : y6.heap.size = p6 + 1 := by rw [← hw1, szA, hg1]
  have HGb := hide hg1
  have hleb := Nat.le_of_eq hg1
  have hgeb := Nat.le_of_eq hg1.symm
  rw [hw1] at HM7
  rw [hg1, hw1b]
  clear hw1 hw1b hg1
  have HW7 := hide (MOwn.below (unhide HW6) (unhide HBLb))
  have HK7 := hide ((unhide HK6).below ((unhide HBLb).mono (by omega)))
  have HO7 := hide (own_only (unhide HO6) (Only.of_new (S := fun _ => False) (unhide HBLb)) (fun _ _ h => h))
  have HLX : Hid (∀ k, ((Value.slice A6 m.vers.length c6).ownBlock = some k ∨ (Value.slice vA6 m.vec.length vc6).ownBlock = some k) → u4.heap.size ≤ k ∧ k < p6) := hide (fun k hk => by
    rw [← unhide HGb]
    rcases hk with hk | hk
    · exact (unhide HW6).vers.lt k hk
    · exact (unhide HW6).vec.lt k hk)
  clear HW6 HK6 HO6 HM6 HM4 HK4 HO4 HBLb
  go_upto_region 9 with (go_at_call 24; (with_reducible refine Calls.mono (unhide HD _ _ _ _ ((RdV.of_own (unhide HO7)).b) (Nat.le_refl _) (unhide HC4).1 (unhide HC4).2) ?_); go_must ((
     rintro _ u8 ⟨A8, c8, vA8, vc8, rfl, _, how, hb⟩
     have HM8 := hide ((unhide HM7).called hb)
     have HW8 := hide (MOwn.below (unhide HW7) hb)
     have HY8 := hide how
     have HK8 := hide ((unhide HK7).below (hb.mono (by omega)))
     have HO8 := hide (own_only (unhide HO7) (Only.of_new (S := fun _ => False) hb) (fun _ _ h => h))
     have hz8 := hb.size
     clear how hb)))
  obtain ⟨p8, hg1⟩ : ∃ x, u8.heap.size = x := ⟨_, rfl⟩
  have HM9 := hide ((unhide HM8).new (t := 28) (cs := mcells m A8 c8 vA8 vc8) p8 hg1)
  obtain ⟨y8, hw1⟩ : ∃ u, u8.alloc (.cells (mcells m A8 c8 vA8 vc8) 28) = u := ⟨_, rfl⟩
  have hw1b : u8.alloc (.cells #[.int .i64 m.kind, .int .u64 m.id, .int .u64 m.n, .int .u64 m.ts, .string m.lo, .string m.hi, .slice A8 m.vers.length c8, .slice vA8 m.vec.length vc8, .int .i64 m.cmd.kind, .int .i64 m.cmd.dc, .int .i64 m.cmd.shard, .int .i64 m.cmd.node, .int .i64 m.cmd.mode, .string m.cmd.key] 28) = y8 := hw1
  have HBLc : Hid (Below u8.heap.size u8 y8) := hide (by rw [← hw1]; exact (Below.refl _ _).alloc (Nat.le_refl _) _)
  have hgsc : y8.heap.size = p8 + 1 := by rw [← hw1, szA, hg1]
  have HGc := hide hg1
  have hlec := Nat.le_of_eq hg1
  have hgec := Nat.le_of_eq hg1.symm
  rw [hw1] at HM9
  rw [hg1, hw1b]
  clear hw1 hw1b hg1
  have HW9 := hide (MOwn.below (unhide HW8) (unhide HBLc))
  have HY9 := hide (MOwn.below (unhide HY8) (unhide HBLc))
  have HK9 := hide ((unhide HK8).below ((unhide HBLc).mono (by omega)))
  have HO9 := hide (own_only (unhide HO8) (Only.of_new (S := fun _ => False) (unhide HBLc)) (fun _ _ h => h))
  clear HW7 HK7 HO7 HM7 HW8 HY8 HK8 HO8 HM8 HBLc
  have f6 : y8.cell? ⟨p6, 6, none⟩ = some (.slice A6 m.vers.length c6) := (unhide HM9).blk1.cell 6
  have hp8l := (unhide HM9).blk0.lt
  have hp6l := (unhide HM9).blk1.lt
  go_upto_region 10 with fail
  go_loopw [44] (fun i wr => ∃ (j : Nat) (Lv : List Value), j ≤ m.vers.length ∧ i = .int .i64 j ∧ Only (fun k => p3 < k ∧ k < p6) y8 wr ∧ wr.ownsRow u4.heap.size 49 6 (.slice A6 m.vers.length c6) m.vers.length Lv ∧ Flags Lv m.vers.length ∧ wr.ownsRow u4.heap.size 22 1 (.slice vA6 m.vec.length vc6) m.vec.length (m.vec.map (Value.int .u64)) ∧ wr.ownsRow y3.heap.size 5 1 (.slice A4 n c4) n (L.map Bv)) (fun i _ => m.vers.length - (intOf i).toNat)
  case atStart => exact ⟨0, vrow m.vers, by omega, rfl, Only.refl _ _, (unhide HW9).vers, flags_vrow _, (unhide HW9).vec, unhide HO9⟩
  case round =>
    clear HO9 HW9 f6
    obtain ⟨j, Lv, hj, rfl, ho, hrow, hfl, hvec, hbr⟩ := hrel
    have HO := hide ho
    have HRW := hide hrow
    have HFL := hide hfl
    have HVC := hide hvec
    have HBR := hide hbr
    have hp6b := ((unhide HM9).blk1).only ho (fun e => by omega)
    have f6 : wr.cell? ⟨p6, 6, none⟩ = some (.slice A6 m.vers.length c6) := hp6b.cell 6
    have f7 : wr.cell? ⟨p6, 7, none⟩ = some (.slice vA6 m.vec.length vc6) := hp6b.cell 7
    have hp6w := hp6b.lt
    clear ho hfl hvec hbr hp6b
    by_cases hlt : j < m.vers.length
    · obtain ⟨q, cp, hv9, hq1, hq2⟩ := hrow.form (by omega)
      simp only [Value.slice.injEq] at hv9
      obtain ⟨rfl, _, rfl⟩ := hv9
      have hqx := unhide HLX q (.inl rfl)
      obtain ⟨gg, hgg⟩ := unhide HFL j hlt
      have fk : wr.cell? ⟨q, j * 6 + 2, none⟩ = some (.bool gg) := (hrow.cellAt (j * 6 + 2) (by omega)).trans hgg
      have fz := hrow.frozenAt (j * 6 + 2)
      clear hrow hgg
      go_upto_region 12 with fail
      go_region
      go_wp2_with fail
      have hos := ((Only.refl (fun k => k = q) wr).setCell (p := ⟨q, j * 6 + 2, none⟩) rfl (.bool !gg)).drew
      have hst := ((unhide HRW).stored (j * 6 + 2) (.bool !gg)).1.drew
      have hvv := own_only (unhide HVC) hos (fun k hk e => own_apart (unhide HRW) (unhide HVC) (by decide) (show _ = some k by rw [e]; rfl) hk)
      have hbb := own_only (unhide HBR) hos (fun k hk e => by have := unhide HL4 k hk; omega)
      exact ⟨⟨j + 1, Lv.set (j * 6 + 2) (.bool !gg), by omega, by simp, (unhide HO).trans (hos.mono fun k _ hk => by rw [hk]; exact ⟨by omega, hqx.2⟩), hst, (unhide HFL).set _ _, hvv, hbb⟩, by simp only [intOf]; omega⟩
    · clear hrow
      have HO1 := HO
      have HP6 := hide (((unhide HM9).blk1).only (unhide HO) (fun e => by omega))
      go_upto_region 15 with fail
      go_loopw [63] (fun i wz => ∃ (j : Nat) (Lv : List Value), j ≤ m.vec.length ∧ i = .int .i64 j ∧ Only (fun k => p3 < k ∧ k < p6) y8 wz ∧ wz.ownsRow u4.heap.size 22 1 (.slice vA6 m.vec.length vc6) m.vec.length Lv ∧ Ints .u64 Lv m.vec.length ∧ wz.ownsRow y3.heap.size 5 1 (.slice A4 n c4) n (L.map Bv)) (fun i _ => m.vec.length - (intOf i).toNat)
      case atStart => exact ⟨0, _, by omega, rfl, unhide HO, unhide HVC, ints_vec _, unhide HBR⟩
      case round =>
        clear HO HRW HFL HVC HBR HO1 HP6 f6 f7
        rename_i wold
        obtain ⟨j2, Lu, hj2, rfl, ho, hrow, hfl, hbr⟩ := hrel
        have HO := hide ho
        have HRW := hide hrow
        have HFL := hide hfl
        have HBR := hide hbr
        have hp6b := ((unhide HM9).blk1).only ho (fun e => by omega)
        have f7 : wr.cell? ⟨p6, 7, none⟩ = some (.slice vA6 m.vec.length vc6) := hp6b.cell 7
        have hp6w2 := hp6b.lt
        clear ho hfl hbr hp6b
        by_cases hlt2 : j2 < m.vec.length
        · obtain ⟨q, cp, hv9, hq1, hq2⟩ := hrow.form (by omega)
          simp only [Value.slice.injEq] at hv9
          obtain ⟨rfl, _, rfl⟩ := hv9
          have hqx := unhide HLX q (.inr rfl)
          obtain ⟨gg, hgg⟩ := unhide HFL j2 hlt2
          have fk : wr.cell? ⟨q, j2, none⟩ = some (.int .u64 gg) := (hrow.cellAt j2 (by omega)).trans hgg
          have fz := hrow.frozenAt j2
          clear hrow hgg
          go_wp2_with fail
          have hos := ((Only.refl (fun k => k = q) wr).setCell (p := ⟨q, j2, none⟩) rfl (.int .u64 (IntKind.u64.wrap (gg + 1))))
          have hst := ((unhide HRW).stored j2 (.int .u64 (IntKind.u64.wrap (gg + 1)))).1
          have hbb := own_only (unhide HBR) hos (fun k hk e => by have := unhide HL4 k hk; omega)
          exact ⟨⟨j2 + 1, Lu.set j2 (.int .u64 (IntKind.u64.wrap (gg + 1))), by omega, by simp, (unhide HO).trans (hos.mono fun k _ hk => by rw [hk]; exact ⟨by omega, hqx.2⟩), hst, (unhide HFL).set _ _, hbb⟩, by simp only [intOf]; omega⟩
        · clear hrow
          go_upto_region 20 with fail
          go_loopw [76] (fun i wz => ∃ (j : Nat) (Lb : List Value), j ≤ n ∧ i = .int .i64 j ∧ Only (fun k => p3 < k ∧ k < p6) y8 wz ∧ wz.ownsRow y3.heap.size 5 1 (.slice A4 n c4) n Lb ∧ Ints .u8 Lb n) (fun i _ => n - (intOf i).toNat)
          case atStart => exact ⟨0, _, by omega, rfl, unhide HO, unhide HBR, by have h := ints_b L; rw [unhide HN] at h; exact h⟩
          case round =>
            clear HO HRW HFL HBR f7
            rename_i wold2
            obtain ⟨j3, Lb, hj3, rfl, ho, hrow, hfl⟩ := hrel
            have HO := hide ho
            have HRW := hide hrow
            have HFL := hide hfl
            by_cases hlt3 : j3 < n
            · obtain ⟨q, cp, hv9, hq1, hq2⟩ := hrow.form (by omega)
              simp only [Value.slice.injEq] at hv9
              obtain ⟨rfl, _, rfl⟩ := hv9
              have hqx := unhide HL4 q rfl
              obtain ⟨gg, hgg⟩ := hfl j3 hlt3
              have fk : wr.cell? ⟨q, j3, none⟩ = some (.int .u8 gg) := (hrow.cellAt j3 (by omega)).trans hgg
              have fz := hrow.frozenAt j3
              clear hrow hgg ho hfl
              go_wp2_with fail
              have hos := ((Only.refl (fun k => k = q) wr).setCell (p := ⟨q, j3, none⟩) rfl (.int .u8 (bits BinOp.xor IntKind.u8 gg 255)))
              have hst := ((unhide HRW).stored j3 (.int .u8 (bits BinOp.xor IntKind.u8 gg 255))).1
              exact ⟨⟨j3 + 1, Lb.set j3 (.int .u8 (bits BinOp.xor IntKind.u8 gg 255)), by omega, by simp, (unhide HO).trans (hos.mono fun k _ hk => by rw [hk]; exact ⟨by omega, by omega⟩), hst, (unhide HFL).set _ _⟩, by simp only [intOf]; omega⟩
            · have hsz := ho.size
              have b8 := ((unhide HM9).blk0).only ho (fun e => by omega)
              have b3 := ((unhide HM9).blk2).only ho (fun e => by omega)
              have bg := ((unhide HM9).blk3).only ho (fun e => by omega)
              have hy := own_only (unhide HY9).vers ho (fun k hk e => by have := ((unhide HY9).vers.lt k hk).1; omega)
              have hyv := own_only (unhide HY9).vec ho (fun k hk e => by have := ((unhide HY9).vec.lt k hk).1; omega)
              have HKY := hide (okq_of_own (m := m) (A := A8) (c := c8) (vA := vA8) (vc := vc8) ⟨hy, hyv⟩ (unhide HOK))
              have HK3 := hide (okq_only (unhide HK9) ho (by omega) (fun k hk e => by omega))
              have HKM := hide (okq_only ((unhide HOK).below (unhide HM9).below) ho (unhide HM9).below.size (fun k hk e => by have := unhide HGS; omega))
              have HBW := hide (below_only (unhide HM9).below (Nat.le_refl _) ho (fun k hk => by have := unhide HGS; omega))
              have HB8 := hide b8; have HB3 := hide b3; have HBG := hide bg
              have l8 := b8.lt; have l3 := b3.lt; have lg := bg.lt
              clear ho hrow hfl b8 b3 bg hy hyv HO HRW HFL
              have hp3w : p3 ≤ wr.heap.size := by omega
              have HS1 : Hid (∀ u, Mq.Ok ⟨m, A8, c8, vA8, vc8⟩ u wr.heap.size → Mq.Ok ⟨m, A3, c3, vA3, vc3⟩ u p3 → wr.heap.size ≤ u.heap.size → Calls Try.prog 19 #[.agg #[.int .i64 m.kind, .int .u64 m.id, .int .u64 m.n, .int .u64 m.ts, .string m.lo, .string m.hi, .slice A8 m.vers.length c8, .slice vA8 m.vec.length vc8, .int .i64 m.cmd.kind, .int .i64 m.cmd.dc, .int .i64 m.cmd.shard, .int .i64 m.cmd.node, .int .i64 m.cmd.mode, .string m.cmd.key], .agg #[.int .i64 m.kind, .int .u64 m.id, .int .u64 m.n, .int .u64 m.ts, .string m.lo, .string m.hi, .slice A3 m.vers.length c3, .slice vA3 m.vec.length vc3, .int .i64 m.cmd.kind, .int .i64 m.cmd.dc, .int .i64 m.cmd.shard, .int .i64 m.cmd.node, .int .i64 m.cmd.mode, .string m.cmd.key]] u fun e w' => e = .returned (.bool true) ∧ Below u.heap.size u w') := hide (fun u h1 h2 h3 => same_msg m m true (by simp) A8 c8 vA8 vc8 A3 c3 vA3 vc3 _ _ u h1 h2 h3 (by omega))
              have HS2 : Hid (∀ u, Mq.Ok ⟨m, A, c, vA, vc⟩ u w.heap.size → Mq.Ok ⟨m, A3, c3, vA3, vc3⟩ u p3 → wr.heap.size ≤ u.heap.size → Calls Try.prog 19 #[.agg #[.int .i64 m.kind, .int .u64 m.id, .int .u64 m.n, .int .u64 m.ts, .string m.lo, .string m.hi, .slice A m.vers.length c, .slice vA m.vec.length vc, .int .i64 m.cmd.kind, .int .i64 m.cmd.dc, .int .i64 m.cmd.shard, .int .i64 m.cmd.node, .int .i64 m.cmd.mode, .string m.cmd.key], .agg #[.int .i64 m.kind, .int .u64 m.id, .int .u64 m.n, .int .u64 m.ts, .string m.lo, .string m.hi, .slice A3 m.vers.length c3, .slice vA3 m.vec.length vc3, .int .i64 m.cmd.kind, .int .i64 m.cmd.dc, .int .i64 m.cmd.shard, .int .i64 m.cmd.node, .int .i64 m.cmd.mode, .string m.cmd.key]] u fun e w' => e = .returned (.bool true) ∧ Below u.heap.size u w') := hide (fun u h1 h2 h3 => same_msg m m true (by simp) A c vA vc A3 c3 vA3 vc3 _ _ u h1 h2 (by have := unhide HGS; omega) (by omega))
              go_wp2_with (first
                | (go_at_call 13; (with_reducible refine Calls.mono (unhide HA _) ?_); go_must ((
                   rintro _ u20 ⟨rfl, hb⟩
                   have HB20 := hide hb
                   have HKYa := hide ((unhide HKY).below hb)
                   have HK3a := hide ((unhide HK3).below (hb.mono (by omega)))
                   have hza := hb.size
                   obtain ⟨x0, x1, x2, x3, x4, x5, x6, x7, x8, x9, x10, x11, x12, x13⟩ := mAt ((unhide HB8).below hb l8)
                   obtain ⟨y0, y1, y2, y3, y4, y5, y6, y7, y8, y9, y10, y11, y12, y13⟩ := mAt ((unhide HB3).below hb l3)
                   clear hb)))
                | (go_at_call 19; (with_reducible refine Calls.mono (unhide HS1 _ (unhide HKYa) (unhide HK3a) hza) ?_); go_must ((
                   rintro _ u21 ⟨rfl, hb⟩
                   have hb2 := (unhide HB20).trans (hb.mono (unhide HB20).size)
                   have HB21 := hide hb2
                   have HK3b := hide ((unhide HK3).below (hb2.mono (by omega)))
                   have HKMb := hide ((unhide HKM).below (hb2.mono (by have := unhide HGS; omega)))
                   have hzb := hb2.size
                   obtain ⟨x0, x1, x2, x3, x4, x5, x6, x7, x8, x9, x10, x11, x12, x13⟩ := mAt ((unhide HBG).below hb2 lg)
                   obtain ⟨y0, y1, y2, y3, y4, y5, y6, y7, y8, y9, y10, y11, y12, y13⟩ := mAt ((unhide HB3).below hb2 l3)
                   clear hb hb2)))
                | (go_at_call 19; (with_reducible refine Calls.mono (unhide HS2 _ (unhide HKMb) (unhide HK3b) hzb) ?_); go_must ((
                   rintro _ u22 ⟨rfl, hb⟩
                   have HB22 := hide ((unhide HB21).trans (hb.mono (unhide HB21).size))
                   clear hb))))
              go_ret
              exact ⟨rfl, (unhide HBW).trans ((unhide HB22).mono (unhide HBW).size)⟩
end Go.Proofs.Ytkgacehnpdijaaa
