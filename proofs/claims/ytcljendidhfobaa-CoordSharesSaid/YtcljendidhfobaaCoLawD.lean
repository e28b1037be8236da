/- By any map writes are shared as the document says; a right map's shares part them, each at its owner (CoordShares). -/
import Derived.Test.YtcljendidhfobaaCoShB
namespace Go.Proofs.Ytcljendidhfobaa
set_option linter.unusedVariables false
open Go.RowKit

theorem shTo_own (f : Vr → Int) (ws : List Vr) : ∀ (k : Nat) (s : Sh), s ∈ shTo f ws k → ∀ v ∈ s.2, f v = s.1
  | 0, s, h => by simp [shTo] at h
  | k + 1, s, h => by
    by_cases he : (atN f k ws).length = 0
    · rw [shTo_none he] at h
      exact shTo_own f ws k s h
    · rw [shTo_some he] at h
      rcases List.mem_append.1 h with h | h
      · exact shTo_own f ws k s h
      · simp at h
        subst h
        intro v hv
        have := (List.mem_filter.1 hv).2
        simpa using this
theorem count_step (f : Vr → Int) (k : Nat) : ∀ ws : List Vr, (ws.filter fun v => decide (0 ≤ f v ∧ f v < ((k + 1 : Nat) : Int))).length = (ws.filter fun v => decide (0 ≤ f v ∧ f v < (k : Int))).length + (atN f k ws).length
  | [] => by simp [atN]
  | v :: r => by
    have ih := count_step f k r
    unfold atN at ih ⊢
    rw [List.filter_cons, List.filter_cons, List.filter_cons]
    by_cases h1 : f v = (k : Int)
    · rw [if_pos (show decide (0 ≤ f v ∧ f v < ((k + 1 : Nat) : Int)) = true from decide_eq_true (by omega)), if_neg (show ¬ decide (0 ≤ f v ∧ f v < (k : Int)) = true by simp; omega), if_pos (show (f v == (k : Int)) = true from beq_iff_eq.2 h1), List.length_cons, List.length_cons, ih]
      omega
    · rw [if_neg (show ¬ (f v == (k : Int)) = true by simpa using h1)]
      by_cases h2 : 0 ≤ f v ∧ f v < (k : Int)
      · rw [if_pos (show decide (0 ≤ f v ∧ f v < ((k + 1 : Nat) : Int)) = true from decide_eq_true (by omega)), if_pos (decide_eq_true h2), List.length_cons, List.length_cons, ih]
        omega
      · rw [if_neg (show ¬ decide (0 ≤ f v ∧ f v < ((k + 1 : Nat) : Int)) = true by simp; omega), if_neg (show ¬ decide (0 ≤ f v ∧ f v < (k : Int)) = true by simpa using h2), ih]
theorem flat_count (f : Vr → Int) (ws : List Vr) : ∀ k, (flatS (shTo f ws k)).length = (ws.filter fun v => decide (0 ≤ f v ∧ f v < (k : Int))).length
  | 0 => by
    rw [List.filter_eq_nil_iff.2 (fun v _ => by simp)]
    rfl
  | k + 1 => by
    rw [count_step, ← flat_count f ws k]
    by_cases he : (atN f k ws).length = 0
    · rw [shTo_none he, he]; rfl
    · rw [shTo_some he]
      unfold flatS
      rw [List.flatMap_append, List.length_append]
      simp
theorem right_total {m : Mp} (h : Right m) (ws : List Vr) : (flatS (shTo (ownV m) ws 4)).length = ws.length := by
  rw [flat_count, List.filter_eq_self.2]
  intro v _
  refine decide_eq_true ?_
  obtain ⟨h1, h2⟩ := h
  have hn := findN_le m.cuts v.key m.cuts.length
  rw [List.take_length] at hn
  have hlt : findN m.cuts v.key < m.nodes.length := by omega
  have hm := h2 _ (List.getElem_mem hlt)
  show 0 ≤ (m.nodes[findN m.cuts v.key]?).getD (-1) ∧ (m.nodes[findN m.cuts v.key]?).getD (-1) < _
  rw [List.getElem?_eq_getElem hlt]
  exact hm
set_option maxHeartbeats 16000000 in
set_option maxRecDepth 20000 in
theorem coordShares_any (m : Mp) (A : Option Addr) (c : Nat) (ws : List Vr) (w : World) (h : m.Ok w w.heap.size) (hr : RdV w w.heap.size A (vrow ws)) :
    Calls Try.prog 5 #[.agg #[.slice m.A m.cuts.length m.c, .slice m.A2 m.nodes.length m.c2], .slice A ws.length c] w fun e w' => e = .returned (.bool true) ∧ Below w.heap.size w w' := by
  have HA := hide awake_any
  have hb0 : Below w.heap.size w (w.alloc (.cells #[.slice m.A m.cuts.length m.c, .slice m.A2 m.nodes.length m.c2] 53)) := (Below.refl _ _).alloc (Nat.le_refl _) _
  have hq0 : Blk (w.alloc (.cells #[.slice m.A m.cuts.length m.c, .slice m.A2 m.nodes.length m.c2] 53)) w.heap.size 53 #[.slice m.A m.cuts.length m.c, .slice m.A2 m.nodes.length m.c2] := Blk.new _ _ _
  have hok := h.below hb0
  have hrd := hr.below hb0
  obtain ⟨w0, hw0⟩ : ∃ u, w.alloc (.cells #[.slice m.A m.cuts.length m.c, .slice m.A2 m.nodes.length m.c2] 53) = u := ⟨_, rfl⟩
  rw [hw0] at hb0 hq0 hok hrd
  have m0 : w0.cell? ⟨w.heap.size, 0, none⟩ = some (.slice m.A m.cuts.length m.c) := hq0.cell 0
  have m1 : w0.cell? ⟨w.heap.size, 1, none⟩ = some (.slice m.A2 m.nodes.length m.c2) := hq0.cell 1
  have hg0 := hq0.lt
  have hs0 := hb0.size
  have HOK := hide hok; have HRD := hide hrd; have HQ0 := hide hq0; have HB0 := hide hb0
  clear h hr hok hrd hb0 hq0
  go_enter Try.func5, Try.ntmps5
  by_cases hbig : m.cuts.length ≤ 60 ∧ m.nodes.length ≤ 60 ∧ ws.length ≤ 60
  · obtain ⟨h1, h2, h3⟩ := hbig
    have e1 : ¬ (60 : Int) < (m.cuts.length : Int) := by omega
    have e2 : ¬ (60 : Int) < (m.nodes.length : Int) := by omega
    have e3 : ¬ (60 : Int) < (ws.length : Int) := by omega
    have e1' : ¬ 60 < m.cuts.length := by omega
    have e2' : ¬ 60 < m.nodes.length := by omega
    have e3' : ¬ 60 < ws.length := by omega
    obtain ⟨L, hL⟩ : ∃ L, shTo (ownV m) ws 4 = L := ⟨_, rfl⟩
    have hL4 : L.length ≤ 4 := by rw [← hL]; exact shTo_len _ _ _
    have hown : ∀ s ∈ L, ∀ v ∈ s.2, ownV m v = s.1 := by rw [← hL]; exact shTo_own _ _ _
    have hT : (flatS L).length ≤ 60 := by
      rw [← hL, flat_count]
      exact Nat.le_trans (List.length_filter_le _ _) h3
    have htot : Right m → (flatS L).length = ws.length := fun h => by rw [← hL]; exact right_total h ws
    have HOW := hide hown; have HTOT := hide htot
    have HSA := hide (fun (u : World) (hu : Below w0.heap.size w0 u) => shares_any m A c w.heap.size ws u ((unhide HOK).below (hu.mono hs0)) (Nat.le_trans hs0 hu.size) ((unhide HRD).below (hu.mono hs0)) (by omega) (by omega))
    have HSR := hide (fun (u : World) (hu : Below w0.heap.size w0 u) => rshares_any m A c w.heap.size ws u ((unhide HOK).below (hu.mono hs0)) (Nat.le_trans hs0 hu.size) ((unhide HRD).below (hu.mono hs0)) (by omega) (by omega))
    obtain ⟨N, hN⟩ : ∃ N, L.length = N := ⟨_, rfl⟩
    have HLL := hide hL; have HNN := hide hN
    clear hown htot hL
    go_wp2_with (first
      | (go_at_call 18; refine (unhide HSA _ (Below.refl _ _)).mono ?_; rintro _ w1 ⟨A5, c5, lk, rfl, hsh, hrow, hver, hb1⟩
         have hlk : lk.length = N := by have := congrArg List.length hsh; rw [List.length_map, unhide HLL] at this; omega
         rw [unhide HLL] at hsh
         rw [hlk] at hrow ⊢
         have HSH1 := hide hsh
         have HLK1 := hide hlk
         have HR1 := hide hrow; have HV1 := hide hver; have HB1 := hide hb1
         have m01 : w1.cell? ⟨w.heap.size, 0, none⟩ = some (.slice m.A m.cuts.length m.c) := (hb1.cell (p := ⟨w.heap.size, 0, none⟩) hg0).trans m0
         have m11 : w1.cell? ⟨w.heap.size, 1, none⟩ = some (.slice m.A2 m.nodes.length m.c2) := (hb1.cell (p := ⟨w.heap.size, 1, none⟩) hg0).trans m1
         have hg1 : w.heap.size < w1.heap.size := Nat.lt_of_lt_of_le hg0 hb1.size
         have hs1 := hb1.size
         clear hsh hrow hver hlk hb1)
      | (go_at_call 19; refine (unhide HSR _ (unhide HB1)).mono ?_; rintro _ w2 ⟨A6, c6, lk2, rfl, hsh, hrow, hver, hb2⟩
         have hlk : lk2.length = N := by have := congrArg List.length hsh; rw [List.length_map, unhide HLL] at this; omega
         rw [unhide HLL] at hsh
         rw [hlk] at hrow ⊢
         have hat1 : ShsAt w2 (fun k => k < w2.heap.size) A5 lk := (⟨RdS.of_own (F := fun k => k < w1.heap.size) (unhide HR1) fun k hk => ((unhide HR1).lt k hk).2, fun s hs => RdS.of_own (unhide HV1 s hs) fun k hk => ((unhide HV1 s hs).lt k hk).2⟩ : ShsAt w1 (fun k => k < w1.heap.size) A5 lk).new hb2 |>.more fun k hk => Nat.lt_of_lt_of_le hk hb2.size
         have hat2 : ShsAt w2 (fun k => k < w2.heap.size) A6 lk2 := ⟨RdS.of_own hrow fun k hk => (hrow.lt k hk).2, fun s hs => RdS.of_own (hver s hs) fun k hk => ((hver s hs).lt k hk).2⟩
         have HSH2 := hide hsh; have HLK2 := hide hlk
         have HA1 := hide hat1; have HA2 := hide hat2
         have HB2 := hide ((unhide HB1).trans (hb2.mono hs1))
         have hs2 : w0.heap.size ≤ w2.heap.size := Nat.le_trans hs1 hb2.size
         clear hsh hrow hver hlk hb2 hat1 hat2))
    go_loopw [7, 41] (fun nv iv wr => ∃ k : Nat, k ≤ N ∧ iv = .int .i64 k ∧ nv = .int .i64 ((flatS (L.take k)).length : Nat) ∧ Below w2.heap.size w2 wr) (fun _ iv _ => N - (intOf iv).toNat)
    case atStart => exact ⟨0, by omega, rfl, rfl, Below.refl _ _⟩
    case round =>
      obtain ⟨k, hk, rfl, rfl, hb⟩ := hrel
      have HB := hide hb
      have hsz := hb.size
      clear hb
      by_cases hlt : k < N
      · obtain ⟨s, hs⟩ : ∃ s, lk[k]? = some s := ⟨lk[k]'(by rw [unhide HLK1]; exact hlt), List.getElem?_eq_getElem _⟩
        obtain ⟨s2, hs2'⟩ : ∃ s, lk2[k]? = some s := ⟨lk2[k]'(by rw [unhide HLK2]; exact hlt), List.getElem?_eq_getElem _⟩
        have hsl : L[k]? = some s.sh := by rw [← unhide HSH1, List.getElem?_map, hs]; rfl
        have hsl2 : L[k]? = some s2.sh := by rw [← unhide HSH2, List.getElem?_map, hs2']; rfl
        have hss : s2.sh = s.sh := by rw [hsl] at hsl2; injection hsl2 with h; exact h.symm
        have hsucc := flatS_succ hsl
        have hln : (flatS (L.take (k + 1))).length = (flatS (L.take k)).length + s.vs.length := by rw [hsucc, List.length_append]; rfl
        have hsv : s.vs.length ≤ 60 ∧ (flatS (L.take k)).length ≤ 60 := by
          have h1 := flatS_le L (k + 1)
          omega
        obtain ⟨hsv1, hsv2⟩ := hsv
        obtain ⟨ad, hA, _, hadl, c0, c1⟩ := ((unhide HA1).new (unhide HB)).at_ hs
        obtain ⟨bd, hB, _, hbdl, e0, e4⟩ := ((unhide HA2).new (unhide HB)).at_ hs2'
        subst hA hB
        rw [← Addr.add_add] at c1 e4
        have c1' : wr.cell? ⟨(ad.add (k * 2)).block, (ad.add (k * 2)).off + 1, none⟩ = some (.slice s.A s.vs.length s.c) := c1
        have e4' : wr.cell? ⟨(bd.add (k * 2)).block, (bd.add (k * 2)).off + 1, none⟩ = some (.slice s2.A s2.vs.length s2.c) := e4
        have HV1 := hide (((unhide HA1).new (unhide HB)).vers s (List.mem_of_getElem? hs)).v
        have HV2 := hide (((unhide HA2).new (unhide HB)).vers s2 (List.mem_of_getElem? hs2')).v
        have howner : ∀ v ∈ s.vs, ownV m v = s.node := unhide HOW s.sh (List.mem_of_getElem? hsl)
        have HOWS := hide howner; have HLN := hide hln
        obtain ⟨nd, vs, A7, c7⟩ := s
        obtain ⟨nd2, vs2, A8, c8⟩ := s2
        have hn2 : nd2 = nd := congrArg Prod.fst hss
        have hv2 : vs2 = vs := congrArg Prod.snd hss
        subst hn2 hv2
        simp only at c0 c1' e0 e4' HV1 HV2 HOWS HLN hsv1
        clear hs hs2' hsl hsl2 hss hsucc hln c1 e4 howner
        have hb5 : Below wr.heap.size wr (wr.alloc (.cells #[.int .i64 nd2, .slice A7 vs2.length c7] 28)) := (Below.refl _ _).alloc (Nat.le_refl _) _
        have hq5 : Blk (wr.alloc (.cells #[.int .i64 nd2, .slice A7 vs2.length c7] 28)) wr.heap.size 28 #[.int .i64 nd2, .slice A7 vs2.length c7] := Blk.new _ _ _
        obtain ⟨w5, hw5⟩ : ∃ u, wr.alloc (.cells #[.int .i64 nd2, .slice A7 vs2.length c7] 28) = u := ⟨_, rfl⟩
        rw [hw5] at hb5 hq5
        have hs5 := hb5.size
        have e05 : w5.cell? (bd.add (k * 2)) = some (.int .i64 nd2) := (hb5.cell (p := bd.add (k * 2)) (by rw [block_of_add]; exact hbdl)).trans e0
        have e45 : w5.cell? ⟨(bd.add (k * 2)).block, (bd.add (k * 2)).off + 1, none⟩ = some (.slice A8 vs2.length c8) := (hb5.cell (p := ⟨(bd.add (k * 2)).block, (bd.add (k * 2)).off + 1, none⟩) (by show (bd.add (k * 2)).block < _; rw [block_of_add]; exact hbdl)).trans e4'
        have d0 : w5.cell? ⟨wr.heap.size, 0, none⟩ = some (.int .i64 nd2) := hq5.cell 0
        have d1 : w5.cell? ⟨wr.heap.size, 1, none⟩ = some (.slice A7 vs2.length c7) := hq5.cell 1
        have hgl5 := hq5.lt
        have HQ5 := hide hq5
        have HB5 := hide hb5
        have HSM := hide (same_vers vs2 A7 A8 c7 c8 wr.heap.size wr.heap.size w5.drew ((unhide HV1).below (hb5.trans (below_drewN' (Below.refl _ _) 1))) ((unhide HV2).below (hb5.trans (below_drewN' (Below.refl _ _) 1))) hs5 hs5 (by omega))
        have fS : w5.drew.cell? ⟨wr.heap.size, 0, none⟩ = some (.int .i64 nd2) ∧ w5.drew.cell? ⟨wr.heap.size, 1, none⟩ = some (.slice A7 vs2.length c7) ∧ w5.drew.cell? (bd.add (k * 2)) = some (.int .i64 nd2) ∧ w5.drew.cell? ⟨(bd.add (k * 2)).block, (bd.add (k * 2)).off + 1, none⟩ = some (.slice A8 vs2.length c8) := ⟨d0, d1, e05, e45⟩
        clear hb5 hq5
        go_upto_region 11 with fail
        clear hw5 c0 c1' e0 e4' e05 e45 d0 d1
        go_region_held3 (fun u => u.cell? ⟨wr.heap.size, 0, none⟩ = some (.int .i64 nd2) ∧ u.cell? ⟨wr.heap.size, 1, none⟩ = some (.slice A7 vs2.length c7) ∧ u.cell? (bd.add (k * 2)) = some (.int .i64 nd2) ∧ u.cell? ⟨(bd.add (k * 2)).block, (bd.add (k * 2)).off + 1, none⟩ = some (.slice A8 vs2.length c8)) (first | assumption | exact fS | exact fS1 | go_keep)
          (first
            | (go_at_call 13; go_must ((
               refine (unhide HSM).mono ?_
               rintro _ w6 ⟨rfl, hb6⟩
               have hb56 : Below w5.heap.size w5 w6 := (below_drewN' (Below.refl _ _) 1).trans hb6
               have fS1 : w6.cell? ⟨wr.heap.size, 0, none⟩ = some (.int .i64 nd2) ∧ w6.cell? ⟨wr.heap.size, 1, none⟩ = some (.slice A7 vs2.length c7) ∧ w6.cell? (bd.add (k * 2)) = some (.int .i64 nd2) ∧ w6.cell? ⟨(bd.add (k * 2)).block, (bd.add (k * 2)).off + 1, none⟩ = some (.slice A8 vs2.length c8) :=
                 ⟨(hb6.cell (p := ⟨wr.heap.size, 0, none⟩) hgl5).trans fS.1, (hb6.cell (p := ⟨wr.heap.size, 1, none⟩) hgl5).trans fS.2.1, (hb6.cell (p := bd.add (k * 2)) (by rw [block_of_add]; exact Nat.lt_of_lt_of_le hbdl hs5)).trans fS.2.2.1, (hb6.cell (p := ⟨(bd.add (k * 2)).block, (bd.add (k * 2)).off + 1, none⟩) (by show (bd.add (k * 2)).block < _; rw [block_of_add]; exact Nat.lt_of_lt_of_le hbdl hs5)).trans fS.2.2.2⟩
               have HB56 := hide hb56
               clear hb56 hb6))))
        all_goals
          have k0 : w6.cell? ⟨wr.heap.size, 0, none⟩ = some (.int .i64 nd2) := fS1.1
          have k1 : w6.cell? ⟨wr.heap.size, 1, none⟩ = some (.slice A7 vs2.length c7) := fS1.2.1
          have hgl6 : wr.heap.size < w6.heap.size := Nat.lt_of_lt_of_le hgl5 (unhide HB56).size
          have HB6 := hide ((unhide HB5).trans ((unhide HB56).mono hs5))
          have hk6 : Blk w6 wr.heap.size 28 #[.int .i64 nd2, .slice A7 vs2.length c7] := (unhide HQ5).below (unhide HB56) hgl5
          have HK6 := hide hk6
          clear fS fS1 hk6
          have HBW6 := hide ((unhide HB).trans ((unhide HB6).mono hsz))
          have HV6 := hide ((unhide HV1).below (unhide HB6))
          have hs26 : w2.heap.size ≤ w6.heap.size := (unhide HBW6).size
          obtain ⟨sb, hsb⟩ : ∃ u, wr.heap.size = u := ⟨_, rfl⟩
          rw [hsb] at k0 k1 hgl6 HK6 HV6 ⊢
          have hsb6 : sb ≤ w6.heap.size := Nat.le_of_lt hgl6
          clear hsb HSM HQ5
          go_wp2_with fail
          go_loopw [73] (fun jv wq => ∃ j : Nat, j ≤ vs2.length ∧ jv = .int .i64 j ∧ Below w6.heap.size w6 wq) (fun jv _ => vs2.length - (intOf jv).toNat)
          case atStart => exact ⟨0, by omega, rfl, Below.refl _ _⟩
          case round =>
            obtain ⟨j, hj, rfl, hbq⟩ := hrel
            have HBq := hide hbq
            have hs6q := hbq.size
            have hbw : Below w0.heap.size w0 wr := ((unhide HB2).trans ((unhide HBW6).mono hs2)).trans (hbq.mono (Nat.le_trans hs2 hs26))
            have HBW := hide hbw
            have hs0q := hbw.size
            clear hbq hbw
            by_cases hjl : j < vs2.length
            · obtain ⟨v, hv⟩ : ∃ v, vs2[j]? = some v := ⟨vs2[j], List.getElem?_eq_getElem hjl⟩
              obtain ⟨qd, hA7, hqdl, a0, a1, a2, a3, a4, a5⟩ := verAt (((unhide HV6).more hsb6).below (unhide HBq)) hv
              subst hA7
              have hov : ownM m v.key = nd2 := unhide HOWS v (List.mem_of_getElem? hv)
              have hq0r : Blk wr w.heap.size 53 #[.slice m.A m.cuts.length m.c, .slice m.A2 m.nodes.length m.c2] := (unhide HQ0).below (unhide HBW) hg0
              have hk7 : Blk wr sb 28 _ := (unhide HK6).below (unhide HBq) hgl6
              obtain ⟨ky, vl, g, ts, dc, tx⟩ := v
              simp only at a0 a1 a2 a3 a4 a5 hov
              have hb8 : Below wr.heap.size wr (wr.alloc (.cells #[.string ky, .string vl, .bool g, .int .u64 ts, .int .i64 dc, .int .i64 tx] 33)) := (Below.refl _ _).alloc (Nat.le_refl _) _
              have hq8 : Blk (wr.alloc (.cells #[.string ky, .string vl, .bool g, .int .u64 ts, .int .i64 dc, .int .i64 tx] 33)) wr.heap.size 33 #[.string ky, .string vl, .bool g, .int .u64 ts, .int .i64 dc, .int .i64 tx] := Blk.new _ _ _
              obtain ⟨w8, hw8⟩ : ∃ u, wr.alloc (.cells #[.string ky, .string vl, .bool g, .int .u64 ts, .int .i64 dc, .int .i64 tx] 33) = u := ⟨_, rfl⟩
              rw [hw8] at hb8 hq8
              have hgwr : w.heap.size < wr.heap.size := hq0r.lt
              have hok8 : m.Ok w8.drew w.heap.size := (((unhide HOK).below ((unhide HBW).mono hs0)).below (hb8.mono (Nat.le_of_lt hgwr))).below (below_drewN' (Below.refl _ _) 1)
              have HOWN := hide (owner_key m ky w.heap.size w8.drew hok8 (Nat.le_trans (Nat.le_of_lt hgwr) hb8.size) (by omega))
              rw [hov] at HOWN
              have hq08 : Blk w8 w.heap.size 53 _ := hq0r.below hb8 hgwr
              have hk8 : Blk w8 sb 28 _ := hk7.below hb8 hk7.lt
              have b0 : w8.cell? ⟨w.heap.size, 0, none⟩ = some (.slice m.A m.cuts.length m.c) := hq08.cell 0
              have b1 : w8.cell? ⟨w.heap.size, 1, none⟩ = some (.slice m.A2 m.nodes.length m.c2) := hq08.cell 1
              have b2 : w8.cell? ⟨wr.heap.size, 0, none⟩ = some (.string ky) := hq8.cell 0
              have b3 : w8.cell? ⟨sb, 0, none⟩ = some (.int .i64 nd2) := hk8.cell 0
              have fS : w8.drew.cell? ⟨w.heap.size, 0, none⟩ = some (.slice m.A m.cuts.length m.c) ∧ w8.drew.cell? ⟨w.heap.size, 1, none⟩ = some (.slice m.A2 m.nodes.length m.c2) ∧ w8.drew.cell? ⟨wr.heap.size, 0, none⟩ = some (.string ky) ∧ w8.drew.cell? ⟨sb, 0, none⟩ = some (.int .i64 nd2) := ⟨b0, b1, b2, b3⟩
              have HB8 := hide hb8
              have hl0 := hq08.lt; have hl2 := hq8.lt; have hl3 := hk8.lt
              clear hv hov hq0r hk7 hb8 hq8 hok8 hq08 hk8
              go_upto_region 17 with fail
              clear hw8 a0 a1 a2 a3 a4 a5 b0 b1 b2 b3
              go_region_held3 (fun u => u.cell? ⟨w.heap.size, 0, none⟩ = some (.slice m.A m.cuts.length m.c) ∧ u.cell? ⟨w.heap.size, 1, none⟩ = some (.slice m.A2 m.nodes.length m.c2) ∧ u.cell? ⟨wr.heap.size, 0, none⟩ = some (.string ky) ∧ u.cell? ⟨sb, 0, none⟩ = some (.int .i64 nd2)) (first | assumption | exact fS | exact fS9 | go_keep)
                (first
                  | (go_at_call 20; go_must ((
                     refine (unhide HOWN).mono ?_
                     rintro _ w9 ⟨rfl, hb9⟩
                     have fS9 : w9.cell? ⟨w.heap.size, 0, none⟩ = some (.slice m.A m.cuts.length m.c) ∧ w9.cell? ⟨w.heap.size, 1, none⟩ = some (.slice m.A2 m.nodes.length m.c2) ∧ w9.cell? ⟨wr.heap.size, 0, none⟩ = some (.string ky) ∧ w9.cell? ⟨sb, 0, none⟩ = some (.int .i64 nd2) :=
                       ⟨(hb9.cell (p := ⟨w.heap.size, 0, none⟩) hl0).trans fS.1, (hb9.cell (p := ⟨w.heap.size, 1, none⟩) hl0).trans fS.2.1, (hb9.cell (p := ⟨wr.heap.size, 0, none⟩) hl2).trans fS.2.2.1, (hb9.cell (p := ⟨sb, 0, none⟩) hl3).trans fS.2.2.2⟩
                     have HB9 := hide ((unhide HBq).trans (((unhide HB8).trans ((below_drewN' (Below.refl _ _) 1).trans (hb9.mono (unhide HB8).size))).mono hs6q))
                     clear hb9))))
              all_goals go_wp2_with fail
              all_goals exact ⟨⟨j + 1, by omega, by go_num, unhide HB9⟩, by simp [intOf]; omega⟩
            · obtain rfl : j = vs2.length := by omega
              go_wp2_with fail
              go_roundw
              case rel => exact ⟨k + 1, by omega, by go_num, by rw [unhide HLN]; go_num, (unhide HBW6).trans ((unhide HBq).mono hs26)⟩
              case measure => simp [intOf]; omega
      · obtain rfl : k = N := by omega
        have htk : flatS (L.take k) = flatS L := by rw [← unhide HNN, List.take_length]
        rw [htk]
        have HBW := hide ((unhide HB2).trans ((unhide HB).mono hs2))
        have hs0r := (unhide HBW).size
        clear htk
        by_cases htt : (flatS L).length = ws.length
        · rw [htt]
          clear htt
          go_wp2_with (go_at_call 11; refine (unhide HA _).mono ?_; rintro _ w5 ⟨rfl, hb5⟩; have HB5 := hide ((unhide HB0).trans (((unhide HBW).trans (hb5.mono hs0r)).mono hs0)); clear hb5)
          go_ret
          exact ⟨rfl, unhide HB5⟩
        · have hnr : ¬ Right m := fun h => htt (unhide HTOT h)
          have g1 : (((flatS L).length : Int) == (ws.length : Int)) = false := beq_eq_false_iff_ne.2 (by omega)
          have g2 : ¬ ((flatS L).length : Int) = (ws.length : Int) := by omega
          have HNR := hide hnr
          clear htt hnr
          go_wp2_with (first
            | (go_at_call 11; refine (unhide HA _).mono ?_; rintro _ w5 ⟨rfl, hb5⟩
               have hbw5 := (unhide HBW).trans (hb5.mono hs0r)
               have hq5 : Blk w5 w.heap.size 53 _ := (unhide HQ0).below hbw5 hg0
               have m05 : w5.cell? ⟨w.heap.size, 0, none⟩ = some (.slice m.A m.cuts.length m.c) := hq5.cell 0
               have m15 : w5.cell? ⟨w.heap.size, 1, none⟩ = some (.slice m.A2 m.nodes.length m.c2) := hq5.cell 1
               have hgl5 := hq5.lt
               have HCK := hide (check_map m w.heap.size w5 ((unhide HOK).below (hbw5.mono hs0)) (Nat.le_of_lt hgl5) (by omega) (unhide HNR))
               have HB5 := hide ((unhide HB0).trans (hbw5.mono hs0)); clear hb5 hbw5 hq5)
            | (go_at_call 21; refine (unhide HCK).mono ?_; rintro _ w6 ⟨er, her, rfl, hb6⟩
               have f1 : (er == 0) = false := beq_eq_false_iff_ne.2 her
               have f2 : (er != 0) = true := by simp [her]
               have HB6 := hide ((unhide HB5).trans (hb6.mono (unhide HB5).size)); clear hb6 her))
          go_ret
          exact ⟨rfl, unhide HB6⟩
  · have hbc : 60 < m.cuts.length ∨ (m.cuts.length ≤ 60 ∧ 60 < m.nodes.length) ∨ (m.cuts.length ≤ 60 ∧ m.nodes.length ≤ 60 ∧ 60 < ws.length) := by omega
    clear hbig
    rcases hbc with h | ⟨h1, h⟩ | ⟨h1, h2, h⟩
    · have e1 : (60 : Int) < (m.cuts.length : Int) := by omega
      go_wp2_with (go_at_call 11; refine (unhide HA _).mono ?_; rintro _ w5 ⟨rfl, hb5⟩; have HB5 := hide ((unhide HB0).trans (hb5.mono hs0)); clear hb5)
      go_ret
      exact ⟨rfl, unhide HB5⟩
    · have e1 : ¬ (60 : Int) < (m.cuts.length : Int) := by omega
      have e2 : (60 : Int) < (m.nodes.length : Int) := by omega
      go_wp2_with (go_at_call 11; refine (unhide HA _).mono ?_; rintro _ w5 ⟨rfl, hb5⟩; have HB5 := hide ((unhide HB0).trans (hb5.mono hs0)); clear hb5)
      go_ret
      exact ⟨rfl, unhide HB5⟩
    · have e1 : ¬ (60 : Int) < (m.cuts.length : Int) := by omega
      have e2 : ¬ (60 : Int) < (m.nodes.length : Int) := by omega
      have e3 : (60 : Int) < (ws.length : Int) := by omega
      go_wp2_with (go_at_call 11; refine (unhide HA _).mono ?_; rintro _ w5 ⟨rfl, hb5⟩; have HB5 := hide ((unhide HB0).trans (hb5.mono hs0)); clear hb5)
      go_ret
      exact ⟨rfl, unhide HB5⟩
end Go.Proofs.Ytcljendidhfobaa
