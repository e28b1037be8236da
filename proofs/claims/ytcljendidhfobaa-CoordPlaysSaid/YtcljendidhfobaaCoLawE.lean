/- The program's table plays as the document's (CoordPlays). -/
import Derived.Test.YtcljendidhfobaaCoAll2
import Derived.Test.YtcljendidhfobaaCoLawC
import Derived.Deep.RegionHeld3
import Derived.Deep.CutBlock
namespace Go.Proofs.Ytcljendidhfobaa
set_option linter.unusedVariables false
open Go.RowKit

theorem told_at {w w' : World} {F : Nat → Prop} {A A2 : Option Addr} {c2 : Nat} {l : List Sq} (h : ShsAt w F A l) (hb : Below w.heap.size w w') (ho : w'.ownsRow w.heap.size 57 2 (.slice A2 l.length c2) l.length (srow l)) : ShsAt w' (fun k => F k ∨ (w.heap.size ≤ k ∧ k < w'.heap.size)) A2 l :=
  ⟨RdS.of_own ho fun k hk => .inr (ho.lt k hk), fun s hs => ((h.vers s hs).new hb).more fun _ hk => .inl hk⟩
theorem doc_new (w : World) : DocAt (w.alloc (.cells #[.slice none 0 0] 64)) (fun k => k = w.heap.size) w.heap.size none 0 [] :=
  ⟨Blk.new _ _ _, own_nil _ _ _ _, fun d h => by simp at h, fun d h => by simp at h, fun d h => by simp at h, fun i j a b _ h => by simp at h, fun k hk => by
    rcases hk with h | h | ⟨d, h, _⟩
    · exact h
    · cases h
    · simp at h, fun k hk => by rw [hk]; simp⟩
set_option maxHeartbeats 16000000 in
set_option maxRecDepth 20000 in
theorem coordPlays_any (B : Option Addr) (d : Nat) (r : List COp) (w : World) (hr : InCOps w w.heap.size B r) (hrd : r.length ≤ d) (hd : d ≤ 9223372036854775807) :
    Calls Try.prog 6 #[.slice B r.length d] w fun e w' => e = .returned (.bool true) ∧ Below w.heap.size w w' := by
  have HA := hide awake_any
  have HN := hide (new_tab w)
  have HR := hide hr
  clear hr
  go_enter Try.func6, Try.ntmps6
  go_wp2_with (first
    | (go_at_call 8; refine (unhide HN).mono ?_; rintro _ w1 ⟨p, rfl, ht1, hb1⟩
       have HT1 := hide ht1; have HB1 := hide hb1; clear ht1 hb1))
  have htwo : Two w (w1.alloc (.cells #[.slice none 0 0] 64)) p w1.heap.size (fun k => w.heap.size ≤ k ∧ k < w1.heap.size) (fun k => k = w1.heap.size) none 0 [] [] :=
    ⟨(unhide HT1).new ((Below.refl _ _).alloc (Nat.le_refl _) _), doc_new w1, fun k h1 h2 => by rw [h2] at h1; exact Nat.lt_irrefl _ h1.2, fun k hk => hk.1, fun k hk => by rw [hk]; exact (unhide HB1).size, (unhide HB1).alloc (unhide HB1).size _⟩
  have HW1 := hide htwo
  clear htwo HT1 HB1 HN
  obtain ⟨w2, hw2⟩ : ∃ u, w1.alloc (.cells #[.slice none 0 0] 64) = u := ⟨_, rfl⟩
  rw [hw2] at HW1 ⊢
  obtain ⟨q, hq⟩ : ∃ u, w1.heap.size = u := ⟨_, rfl⟩
  rw [hq] at HW1 ⊢
  clear hw2 hq
  go_loopw [5] (fun iv wr => ∃ (k : Nat) (S S' : Nat → Prop) (oA : Option Addr) (oc : Nat) (T : List Et) (D : List Dt), k ≤ r.length ∧ k ≤ 80 ∧ iv = .int .i64 k ∧ Two w wr p q S S' oA oc T D ∧ Both T D k) (fun iv _ => r.length - (intOf iv).toNat)
  case atStart => exact ⟨0, _, _, _, _, _, _, by omega, by omega, rfl, unhide HW1, Both.nil⟩
  case round =>
    clear HW1
    obtain ⟨k, S, S', oA, oc, T, D, hk, hk80, rfl, htw, hbo⟩ := hrel
    have HTW := hide htw; have HBO := hide hbo
    have hsz := htw.size
    have hbw := htw.below
    by_cases hgo : k < r.length ∧ k < 80
    · obtain ⟨hlt, h80⟩ := hgo
      obtain ⟨o, ho⟩ : ∃ x, r[k]? = some x := ⟨r[k], List.getElem?_eq_getElem hlt⟩
      obtain ⟨⟨ad, hA, hadl, hc⟩, hok⟩ := ((unhide HR).below hbw) k o ho
      subst hA
      obtain ⟨kd, tx, t, nd, A5, c5, l5, lo, hi⟩ := o
      have c0 : wr.cell? (ad.add (k * 7)) = some (.int .i64 kd) := hc 0 _ rfl
      have c1 : wr.cell? ⟨(ad.add (k * 7)).block, (ad.add (k * 7)).off + 1, none⟩ = some (.int .u64 tx) := by have := hc 1 _ rfl; rw [← Addr.add_add] at this; exact this
      have c2 : wr.cell? ⟨(ad.add (k * 7)).block, (ad.add (k * 7)).off + 2, none⟩ = some (.int .u64 t) := by have := hc 2 _ rfl; rw [← Addr.add_add] at this; exact this
      have c3 : wr.cell? ⟨(ad.add (k * 7)).block, (ad.add (k * 7)).off + 3, none⟩ = some (.int .i64 nd) := by have := hc 3 _ rfl; rw [← Addr.add_add] at this; exact this
      have c4 : wr.cell? ⟨(ad.add (k * 7)).block, (ad.add (k * 7)).off + 4, none⟩ = some (.slice A5 l5.length c5) := by have := hc 4 _ rfl; rw [← Addr.add_add] at this; exact this
      have c5' : wr.cell? ⟨(ad.add (k * 7)).block, (ad.add (k * 7)).off + 5, none⟩ = some (.string lo) := by have := hc 5 _ rfl; rw [← Addr.add_add] at this; exact this
      have c6 : wr.cell? ⟨(ad.add (k * 7)).block, (ad.add (k * 7)).off + 6, none⟩ = some (.string hi) := by have := hc 6 _ rfl; rw [← Addr.add_add] at this; exact this
      have hb5 : Below wr.heap.size wr (wr.alloc (.cells #[.int .i64 kd, .int .u64 tx, .int .u64 t, .int .i64 nd, .slice A5 l5.length c5, .string lo, .string hi] 44)) := (Below.refl _ _).alloc (Nat.le_refl _) _
      have hq5 : Blk (wr.alloc (.cells #[.int .i64 kd, .int .u64 tx, .int .u64 t, .int .i64 nd, .slice A5 l5.length c5, .string lo, .string hi] 44)) wr.heap.size 44 #[.int .i64 kd, .int .u64 tx, .int .u64 t, .int .i64 nd, .slice A5 l5.length c5, .string lo, .string hi] := Blk.new _ _ _
      have HT5 := hide ((unhide HTW).new hb5)
      have hoS : ¬ S wr.heap.size := fun h => Nat.lt_irrefl _ (htw.tab.lt _ h)
      have hoD : ¬ S' wr.heap.size := fun h => Nat.lt_irrefl _ (htw.doc.lt _ h)
      have HOK := hide (hok.shs.below (hb5.mono hsz))
      have ht0 := hok.tx0; have ht1 := hok.tx1; have hn0 := hok.n0; have hn1 := hok.n1
      obtain ⟨w5, hw5⟩ : ∃ u, wr.alloc (.cells #[.int .i64 kd, .int .u64 tx, .int .u64 t, .int .i64 nd, .slice A5 l5.length c5, .string lo, .string hi] 44) = u := ⟨_, rfl⟩
      rw [hw5] at hq5 HT5 HOK
      have hgl5 := hq5.lt
      have HQ5 := hide hq5
      have hfo := copAt hq5
      have HFO := hide hfo
      simp only at ht0 ht1 hn0 hn1
      clear htw hbo hc hok ho hb5 hq5 hadl HTW hbw hfo
      go_upto_region 8 with fail
      clear hw5 c0 c1 c2 c3 c4 c5' c6
      obtain ⟨d0, d1, d2, d3, d4, d5, d6⟩ := unhide HFO
      obtain ⟨og, hog⟩ : ∃ u, wr.heap.size = u := ⟨_, rfl⟩
      rw [hog] at hoS hoD hgl5 HQ5 HFO d0 d1 d2 d3 d4 d5 d6 ⊢
      have hk3 : k ≤ 3000 := by omega
      have HBL := hide (unhide HT5).below
      go_upto_block 2 with fail
      go_cut [] (fun u => ∃ (S S' : Nat → Prop) (oA : Option Addr) (oc : Nat) (T : List Et) (D : List Dt), Two w u p q S S' oA oc T D ∧ Both T D (k + 1) ∧ Blk u og 44 #[.int .i64 kd, .int .u64 tx, .int .u64 t, .int .i64 nd, .slice A5 l5.length c5, .string lo, .string hi])
      case first =>
        by_cases h1 : kd = 0
        · have g1 : (kd == 0) = true := beq_iff_eq.2 h1
          clear h1
          have h6 := fewQ_len l5
          have hf48 := flatS_few l5
          obtain ⟨er, T', hst⟩ := starts_or T tx t ((fewQ l5).map Sq.sh)
          have HST := hide hst
          have hs5 := (unhide HBL).size
          clear hst
          go_upto_region 15 with (first
            | (go_at_call 9; refine (few_any A5 c5 l5 _ ((unhide HOK).more hs5)).mono ?_; rintro _ w6 ⟨A2, c2, rfl, ho2, hc2, hb2⟩
               have hat := few_at2 (unhide HOK) (hb2.mono hs5) hs5 ho2
               have hq6 := (unhide HQ5).below hb2 hgl5
               have hfo := copAt hq6
               have HT6 := hide ((unhide HT5).new hb2); have HAT := hide hat; have HQ6 := hide hq6; have HFO6 := hide hfo; have HB2 := hide hb2; have HC2 := hide hc2
               clear hb2 ho2 hat hq6 hfo hc2))
          have fS : w6.drew.cell? ⟨og, 1, none⟩ = some (.int .u64 tx) ∧ w6.drew.cell? ⟨og, 2, none⟩ = some (.int .u64 t) := ⟨(unhide HFO6).2.1, (unhide HFO6).2.2.1⟩
          have HT6d : Hid (Two w w6.drew p q S S' oA oc T D) := hide ((unhide HT6).new (below_drewN' (Below.refl _ _) 1))
          have HATd : Hid (ShsAt w6.drew (fun k => k < w.heap.size ∨ (w5.heap.size ≤ k ∧ k < w6.heap.size)) A2 (fewQ l5)) := hide ((unhide HAT).drewN 1)
          have HQ6d : Hid (Blk w6.drew og 44 #[.int .i64 kd, .int .u64 tx, .int .u64 t, .int .i64 nd, .slice A5 l5.length c5, .string lo, .string hi]) := hide (unhide HQ6)
          have hFS : ∀ k, (k < w.heap.size ∨ (w5.heap.size ≤ k ∧ k < w6.heap.size)) → ¬ S k := fun k hk hS => hk.elim (fun h => Nat.lt_irrefl _ (Nat.lt_of_lt_of_le h ((unhide HT5).sg k hS))) (fun h => Nat.lt_irrefl _ (Nat.lt_of_lt_of_le ((unhide HT5).tab.lt k hS) h.1))
          clear d0 d1 d2 d3 d4 d5 d6 HT6 HAT HQ6 HFO6 HFO
          go_region_held3 (fun u => u.cell? ⟨og, 1, none⟩ = some (.int .u64 tx) ∧ u.cell? ⟨og, 2, none⟩ = some (.int .u64 t)) (first | assumption | exact fS | exact fS7 | exact fS8 | exact fS9 | go_keep)
            (first
              | (go_at_call 10; go_must ((
                 (with_reducible refine Calls.mono (start_all S _ p T T' tx t er A2 c2 (fewQ l5) _ (unhide HT6d).tab ht0 ht1 (by have := (unhide HBO).tl; omega) (by omega) (unhide HC2) (unhide HATd) (few_vs l5) (unhide HST)) ?_)
                 rintro _ w7 ⟨rfl, S2, ht7, ho7, hs7⟩
                 have HT7 := hide ((unhide HT6d).tabs ht7 ho7 hs7)
                 have hq7 := (unhide HQ6d).only ho7 hoS
                 have hfo := copAt hq7
                 have fS7 : w7.cell? ⟨og, 1, none⟩ = some (.int .u64 tx) ∧ w7.cell? ⟨og, 2, none⟩ = some (.int .u64 t) := ⟨hfo.2.1, hfo.2.2.1⟩
                 have HQ7 := hide hq7
                 have HAT7 := hide ((unhide HATd).only ho7 hFS)
                 clear ht7 ho7 hs7 hq7 hfo)))
              | (go_at_call 23; go_must ((
                 refine (told_any _ A2 c2 (fewQ l5) _ (unhide HAT7) (by omega)).mono ?_
                 rintro _ w8 ⟨A3, c3, rfl, ho8, hb8⟩
                 have HT8 := hide ((unhide HT7).new hb8)
                 have hq8 := (unhide HQ7).below hb8 (unhide HQ7).lt
                 have hfo := copAt hq8
                 have fS8 : w8.cell? ⟨og, 1, none⟩ = some (.int .u64 tx) ∧ w8.cell? ⟨og, 2, none⟩ = some (.int .u64 t) := ⟨hfo.2.1, hfo.2.2.1⟩
                 have HQ8 := hide hq8
                 have HAT8 := hide (told_at (unhide HAT7) hb8 ho8)
                 clear hb8 ho8 hq8 hfo)))
              | (go_at_call 22; go_must ((
                 (with_reducible refine Calls.mono (dstart_all S' _ q k oA oc T T' D tx t er A3 c3 (fewQ l5) _ (unhide HT8).doc (unhide HBO) (by omega) ht0 ht1 h6 hf48 (unhide HAT8) (few_vs l5) (unhide HST)) ?_)
                 rintro _ w9 ⟨rfl, oA2, oc2, S3, D2, hd9, hb9, ho9, hs9⟩
                 have HT9 := hide ((unhide HT8).docs hd9 ho9 hs9)
                 have hq9 := (unhide HQ8).only ho9 hoD
                 have hfo := copAt hq9
                 have fS9 : w9.cell? ⟨og, 1, none⟩ = some (.int .u64 tx) ∧ w9.cell? ⟨og, 2, none⟩ = some (.int .u64 t) := ⟨hfo.2.1, hfo.2.2.1⟩
                 have HQ9 := hide hq9
                 have HB9 := hide hb9
                 clear hd9 hb9 ho9 hs9 hq9 hfo))))
          all_goals go_wp2_with fail
          all_goals
            go_meet
            case rel => exact ⟨_, _, _, _, _, _, unhide HT9, unhide HB9, unhide HQ9⟩
        · have g1 : (kd == 0) = false := beq_eq_false_iff_ne.2 h1
          clear h1
          by_cases h2 : kd = 1
          · have g2 : (kd == 1) = true := beq_iff_eq.2 h2
            clear h2
            obtain ⟨ra, rb, rc, T', hv⟩ := votes_or T tx nd t
            have HV := hide hv
            clear hv
            go_wp2_with (first
              | (go_at_call 16; (with_reducible refine Calls.mono (vote_all S p k T T' tx nd t ra rb rc _ (unhide HT5).tab (unhide HBO).each hk3 ht0 ht1 hn0 hn1 (unhide HV)) ?_); rintro _ w6 ⟨rfl, S2, ht6, ho6, hs6⟩
                 have HT6 := hide ((unhide HT5).tabs ht6 ho6 hs6)
                 have hq6 := (unhide HQ5).only ho6 hoS
                 obtain ⟨d60, d61, d62, d63, d64, d65, d66⟩ := copAt hq6
                 have hgl6 := hq6.lt
                 have HQ6 := hide hq6
                 clear ht6 ho6 hs6 hq6)
              | (go_at_call 24; (with_reducible refine Calls.mono (dvote_all S' q k oA oc T T' D tx nd t ra rb rc _ (unhide HT6).doc (unhide HBO) hk3 (unhide HV)) ?_); rintro _ w7 ⟨rfl, oA2, oc2, S3, D2, hd7, hb7, ho7, hs7⟩
                 have HT7 := hide ((unhide HT6).docs hd7 ho7 hs7)
                 have HQ7 := hide ((unhide HQ6).only ho7 hoD)
                 have HB7 := hide hb7
                 clear hd7 ho7 hs7 hb7))
            go_meet
            case rel => exact ⟨_, _, _, _, _, _, unhide HT7, unhide HB7, unhide HQ7⟩
          · have g2 : (kd == 1) = false := beq_eq_false_iff_ne.2 h2
            clear h2
            obtain ⟨rb, rc, T', hv⟩ := ends_or T tx nd
            have HV := hide hv
            clear hv
            go_wp2_with (first
              | (go_at_call 17; (with_reducible refine Calls.mono (end_all S p k T T' tx nd rb rc _ (unhide HT5).tab (unhide HBO).each hk3 ht0 ht1 hn0 hn1 (unhide HV)) ?_); rintro _ w6 ⟨rfl, S2, ht6, ho6, hs6⟩
                 have HT6 := hide ((unhide HT5).tabs ht6 ho6 hs6)
                 have hq6 := (unhide HQ5).only ho6 hoS
                 obtain ⟨d60, d61, d62, d63, d64, d65, d66⟩ := copAt hq6
                 have hgl6 := hq6.lt
                 have HQ6 := hide hq6
                 clear ht6 ho6 hs6 hq6)
              | (go_at_call 25; (with_reducible refine Calls.mono (dend_all S' q k oA oc T T' D tx nd rb rc _ (unhide HT6).doc (unhide HBO) hk3 (unhide HV)) ?_); rintro _ w7 ⟨rfl, oA2, oc2, S3, D2, hd7, hb7, ho7, hs7⟩
                 have HT7 := hide ((unhide HT6).docs hd7 ho7 hs7)
                 have HQ7 := hide ((unhide HQ6).only ho7 hoD)
                 have HB7 := hide hb7
                 clear hd7 ho7 hs7 hb7))
            go_meet
            case rel => exact ⟨_, _, _, _, _, _, unhide HT7, unhide HB7, unhide HQ7⟩
      case rest =>
        clear HBL HFO d0 d1 d2 d3 d4 d5 d6 HQ5 hgl5 hoD hoS hog HT5 HOK HBO
        obtain ⟨S1, S2, oA1, oc1, T1, D1, htw, hbo, hq⟩ := hcut
        have HT1 := hide htw; have HB1 := hide hbo; have HQ1 := hide hq
        have hgl1 := hq.lt
        have hfo := copAt hq
        have fS : wc.drew.cell? ⟨og, 1, none⟩ = some (.int .u64 tx) := hfo.2.1
        have HT1d : Hid (Two w wc.drew p q S1 S2 oA1 oc1 T1 D1) := hide (htw.new (below_drewN' (Below.refl _ _) 1))
        have HQ1d : Hid (Blk wc.drew og 44 #[.int .i64 kd, .int .u64 tx, .int .u64 t, .int .i64 nd, .slice A5 l5.length c5, .string lo, .string hi]) := hide hq
        have hN6 := nodesOf_len hbo.each tx
        obtain ⟨N, hN⟩ : ∃ N, nodesOf T1 tx = N := ⟨_, rfl⟩
        have HN := hide hN
        rw [hN] at hN6
        clear htw hbo hq hfo hN
        go_upto_region 22 with fail
        go_region_held3 (fun u => u.cell? ⟨og, 1, none⟩ = some (.int .u64 tx)) (first | assumption | exact fS | exact fS7 | exact fS8 | go_keep)
          (first
            | (go_at_call 14; go_must ((
               refine (nodes_all (unhide HT1d).tab (unhide HB1).each ht0 ht1).mono ?_
               rintro _ w7 ⟨A7, c7, rfl, hr7, hb7⟩
               rw [unhide HN] at hr7 ⊢
               have HT7 := hide ((unhide HT1d).new hb7)
               have hq7 := (unhide HQ1d).below hb7 hgl1
               have fS7 : w7.cell? ⟨og, 1, none⟩ = some (.int .u64 tx) := (copAt hq7).2.1
               have HQ7 := hide hq7; have HR7 := hide hr7
               clear hr7 hb7 hq7)))
            | (go_at_call 26; go_must ((
               refine (dnodes_all (unhide HT7).doc (unhide HB1) (by omega)).mono ?_
               rintro _ w8 ⟨A8, c8, rfl, hr8, hb8⟩
               rw [unhide HN] at hr8 ⊢
               have HT8 := hide ((unhide HT7).new hb8)
               have hq8 := (unhide HQ7).below hb8 (unhide HQ7).lt
               have fS8 : w8.cell? ⟨og, 1, none⟩ = some (.int .u64 tx) := (copAt hq8).2.1
               have HQ8 := hide hq8; have HR8 := hide hr8
               have HR78 := hide (((unhide HR7).below hb8).more hb8.size)
               clear hr8 hb8 hq8))))
        all_goals
          clear fS fS7 fS8
          have hsz8 := (unhide HT8).size
          go_wp2_with fail
          go_loopw [20, 143] (fun nv jv wq => ∃ j : Nat, j ≤ N.length ∧ jv = .int .i64 j ∧ Below w8.heap.size w8 wq) (fun _ jv _ => N.length - (intOf jv).toNat)
          case atStart => exact ⟨0, by omega, rfl, Below.refl _ _⟩
          case round =>
            obtain ⟨j, hj, rfl, hbq⟩ := hrel
            have HBQ := hide hbq
            have hsq := hbq.size
            by_cases hjl : j < N.length
            · obtain ⟨x, hx⟩ : ∃ x, N[j]? = some x := ⟨N[j], List.getElem?_eq_getElem hjl⟩
              obtain ⟨a7, rfl, _, e7⟩ := RdV.num ((unhide HR78).below hbq) hx
              obtain ⟨a8, rfl, _, e8⟩ := RdV.num ((unhide HR8).below hbq) hx
              have e7d : wr.drew.cell? (a7.add j) = some (.int .i64 x) := e7
              have e8d : wr.drew.cell? (a8.add j) = some (.int .i64 x) := e8
              have fS : wr.drew.cell? (a7.add j) = some (.int .i64 x) ∧ wr.drew.cell? (a8.add j) = some (.int .i64 x) := ⟨e7, e8⟩
              clear hbq hx
              go_upto_region 28 with fail
              go_quiet (fail)
              go_wp2_with fail
              exact ⟨⟨j + 1, by omega, by go_num, below_drewN' (unhide HBQ) _⟩, by simp [intOf]; omega⟩
            · obtain rfl : j = N.length := by omega
              clear hbq
              have HTD := hide (unhide HB1).len
              have hq0 := (unhide HQ8).below (unhide HBQ) (unhide HQ8).lt
              have hfo0 := copAt hq0
              have HU0 : Hid (Two w wr.drew p q S1 S2 oA1 oc1 T1 D1) := hide (((unhide HT8).new (unhide HBQ)).new (below_drewN' (Below.refl _ _) 1))
              have HP0 : Hid (Blk wr.drew og 44 #[.int .i64 kd, .int .u64 tx, .int .u64 t, .int .i64 nd, .slice A5 l5.length c5, .string lo, .string hi]) := hide hq0
              have fS0 : wr.drew.cell? ⟨og, 1, none⟩ = some (.int .u64 tx) ∧ wr.drew.cell? ⟨og, 5, none⟩ = some (.string lo) ∧ wr.drew.cell? ⟨og, 6, none⟩ = some (.string hi) ∧ wr.drew.cell? ⟨q, 0, none⟩ = some (.slice oA1 D1.length oc1) := ⟨hfo0.2.1, hfo0.2.2.2.2.2.1, hfo0.2.2.2.2.2.2, (unhide HU0).doc.hdr⟩
              have hW48 := writesOf_len (unhide HB1).each tx
              obtain ⟨V, hV⟩ : ∃ V, writesOf T1 tx = V := ⟨_, rfl⟩
              have HV := hide hV
              rw [hV] at hW48
              clear hq0 hfo0 hV
              go_upto_region 31 with fail
              go_region_held3 (fun u => u.cell? ⟨og, 1, none⟩ = some (.int .u64 tx) ∧ u.cell? ⟨og, 5, none⟩ = some (.string lo) ∧ u.cell? ⟨og, 6, none⟩ = some (.string hi) ∧ u.cell? ⟨q, 0, none⟩ = some (.slice oA1 D1.length oc1)) (first | assumption | exact fS0 | exact fS2 | exact fS3 | exact fS4 | exact fS5 | exact fS6 | go_keep)
                (first
                | (go_at_call 15; go_must ((
                   refine (len_tab S1 p T1 _ (unhide HU0).tab).mono ?_
                   rintro _ v1 ⟨rfl, rfl⟩
                   rw [unhide HTD])))
                | (go_at_call 12; go_must ((
                   refine (writes_all (unhide HU0).tab (unhide HB1).each ht0 ht1).mono ?_
                   rintro _ v2 ⟨A2, c2, rfl, hr, hb⟩
                   rw [unhide HV] at hr ⊢
                   have HU2 := hide ((unhide HU0).new hb)
                   have hq := (unhide HP0).below hb (unhide HP0).lt
                   have hfo := copAt hq
                   have fS2 : v2.cell? ⟨og, 1, none⟩ = some (.int .u64 tx) ∧ v2.cell? ⟨og, 5, none⟩ = some (.string lo) ∧ v2.cell? ⟨og, 6, none⟩ = some (.string hi) ∧ v2.cell? ⟨q, 0, none⟩ = some (.slice oA1 D1.length oc1) := ⟨hfo.2.1, hfo.2.2.2.2.2.1, hfo.2.2.2.2.2.2, (unhide HU2).doc.hdr⟩
                   have HP2 := hide hq
                   have HX2 := hide hr; have hxs2 := hb.size
                   clear hb hq hfo)))
                | (go_at_call 27; go_must ((
                   refine (dwrites_all (unhide HU2).doc (unhide HB1) (by omega)).mono ?_
                   rintro _ v3 ⟨A3, c3, rfl, hr, hb⟩
                   rw [unhide HV] at hr ⊢
                   have HU3 := hide ((unhide HU2).new hb)
                   have hq := (unhide HP2).below hb (unhide HP2).lt
                   have hfo := copAt hq
                   have fS3 : v3.cell? ⟨og, 1, none⟩ = some (.int .u64 tx) ∧ v3.cell? ⟨og, 5, none⟩ = some (.string lo) ∧ v3.cell? ⟨og, 6, none⟩ = some (.string hi) ∧ v3.cell? ⟨q, 0, none⟩ = some (.slice oA1 D1.length oc1) := ⟨hfo.2.1, hfo.2.2.2.2.2.1, hfo.2.2.2.2.2.2, (unhide HU3).doc.hdr⟩
                   have HP3 := hide hq
                   have HX3 := hide hr; have HX23 := hide (((unhide HX2).below hb).more hb.size)
                   clear hb hq hfo)))
                | (go_at_call 13; go_must ((
                   refine (same_vers V A2 A3 c2 c3 _ _ _ (unhide HX23) (unhide HX3) (Nat.le_refl _) (Nat.le_refl _) (by omega)).mono ?_
                   rintro _ v4 ⟨rfl, hb⟩
                   have HU4 := hide ((unhide HU3).new hb)
                   have hq := (unhide HP3).below hb (unhide HP3).lt
                   have hfo := copAt hq
                   have fS4 : v4.cell? ⟨og, 1, none⟩ = some (.int .u64 tx) ∧ v4.cell? ⟨og, 5, none⟩ = some (.string lo) ∧ v4.cell? ⟨og, 6, none⟩ = some (.string hi) ∧ v4.cell? ⟨q, 0, none⟩ = some (.slice oA1 D1.length oc1) := ⟨hfo.2.1, hfo.2.2.2.2.2.1, hfo.2.2.2.2.2.2, (unhide HU4).doc.hdr⟩
                   have HP4 := hide hq
                   clear hb hq hfo)))
                | (go_at_call 28; go_must ((
                   refine (touches_all lo hi (unhide HU4).tab (unhide HB1).each).mono ?_
                   rintro _ v5 ⟨rfl, hb⟩
                   have HU5 := hide ((unhide HU4).new hb)
                   have hq := (unhide HP4).below hb (unhide HP4).lt
                   have hfo := copAt hq
                   have fS5 : v5.cell? ⟨og, 1, none⟩ = some (.int .u64 tx) ∧ v5.cell? ⟨og, 5, none⟩ = some (.string lo) ∧ v5.cell? ⟨og, 6, none⟩ = some (.string hi) ∧ v5.cell? ⟨q, 0, none⟩ = some (.slice oA1 D1.length oc1) := ⟨hfo.2.1, hfo.2.2.2.2.2.1, hfo.2.2.2.2.2.2, (unhide HU5).doc.hdr⟩
                   have HP5 := hide hq
                   clear hb hq hfo)))
                | (go_at_call 29; go_must ((
                   refine (dtouches_all lo hi (unhide HU5).doc (unhide HB1) (by omega)).mono ?_
                   rintro _ v6 ⟨rfl, hb⟩
                   have HU6 := hide ((unhide HU5).new hb)
                   have hq := (unhide HP5).below hb (unhide HP5).lt
                   have hfo := copAt hq
                   have fS6 : v6.cell? ⟨og, 1, none⟩ = some (.int .u64 tx) ∧ v6.cell? ⟨og, 5, none⟩ = some (.string lo) ∧ v6.cell? ⟨og, 6, none⟩ = some (.string hi) ∧ v6.cell? ⟨q, 0, none⟩ = some (.slice oA1 D1.length oc1) := ⟨hfo.2.1, hfo.2.2.2.2.2.1, hfo.2.2.2.2.2.2, (unhide HU6).doc.hdr⟩
                   have HP6 := hide hq
                   clear hb hq hfo)))
                )
              all_goals go_wp2_with fail
              all_goals
                go_roundw
                case rel => exact ⟨k + 1, _, _, _, _, _, _, by omega, by omega, by go_num, unhide HU6, unhide HB1⟩
                case measure => simp [intOf]; omega
    · rcases Nat.lt_or_ge k r.length with hlt | hlt
      · obtain rfl : k = 80 := by omega
        rw [show ((80 : Nat) : Int) = 80 from rfl]
        clear htw hbo
        have HB := hide hbw
        go_wp2_with (go_at_call 11; refine (unhide HA _).mono ?_; rintro _ w6 ⟨rfl, hb6⟩; have HB7 := hide ((unhide HB).trans (hb6.mono hsz)); clear hb6)
        go_ret
        exact ⟨rfl, unhide HB7⟩
      · obtain rfl : k = r.length := by omega
        clear htw hbo
        have HB := hide hbw
        go_wp2_with (go_at_call 11; refine (unhide HA _).mono ?_; rintro _ w6 ⟨rfl, hb6⟩; have HB7 := hide ((unhide HB).trans (hb6.mono hsz)); clear hb6)
        go_ret
        exact ⟨rfl, unhide HB7⟩
end Go.Proofs.Ytcljendidhfobaa
