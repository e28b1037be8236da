/- The walk of LinkOnce. -/
import Derived.Test.YtmmkjphkfhgcpaaLinkTwoDo
import Derived.Test.YtmmkjphkfhgcpaaLinkMoveOpen
import Derived.Test.YtmmkjphkfhgcpaaLinkTwoEnds
namespace Go.Proofs.Ytmmkjphkfhgcpaa
set_option linter.unusedVariables false
open Go.RowKit

set_option maxHeartbeats 8000000 in
set_option maxRecDepth 20000 in
theorem linkOnce_any (ep : Int) (A : Option Addr) (c : Nat) (rs : List Mv) (w : World) (hin : InMoves w w.heap.size A rs) (hc : rs.length ≤ c) (hc2 : c ≤ 9223372036854775807) :
    Calls Try.prog 4 #[.int .i64 ep, .slice A rs.length c] w fun e w' => e = .returned (.bool true) ∧ Below w.heap.size w w' := by
  have HA := hide awake_any
  have HIN := hide hin
  clear hin
  go_enter Try.func4, Try.ntmps4
  go_upto_region 2 with (go_at_call 10; refine (new_e ep _).mono ?_
                         first
                         | (have _t := hs1; rintro _ w2 ⟨pb, rfl, he2, hm2, hb2⟩; have HE2 := hide he2; have HM2 := hide hm2; have HB2 := hide hb2; clear he2 hm2 hb2)
                         | (rintro _ w1 ⟨pa, rfl, he1, hm1, hb1⟩; have hs1 := hb1.size; have HE1 := hide he1; have HM1 := hide hm1; have HB1 := hide hb1; clear he1 hm1 hb1))
  obtain ⟨w3, hw3⟩ : ∃ u, w2.alloc (.cells (twoCells pa pb ⟨none, 0, [], none, 0, [], none, 0, []⟩) 41) = u := ⟨_, rfl⟩
  have hst := two_start (unhide HE1) (unhide HM1) (unhide HB1) (unhide HE2) (unhide HM2) (unhide HB2)
  rw [hw3] at hst
  have hw3' : w2.alloc (.cells #[.pointer (some ⟨pa, 0, none⟩), .pointer (some ⟨pb, 0, none⟩), .slice none 0 0, .slice none 0 0, .slice none 0 0] 41) = w3 := hw3
  rw [hw3']
  have HT3 := hide hst.1; have HI3 := hide hst.2
  clear hst hw3 hw3' HE1 HM1 HB1 HE2 HM2 HB2 hs1
  generalize w2.heap.size = pt at HT3 ⊢
  generalize newS ep w.heap.size = sa0 at HT3 HI3
  generalize newS ep w1.heap.size = sb0 at HT3 HI3
  have ft3 := twoAt (unhide HT3).tt.blk
  go_wp2_with fail
  go_loopw [6] (fun ix wr => ∃ (k : Nat) (sa sb : LS) (t : TR), k ≤ rs.length ∧ k ≤ 300 ∧ ix = .int .i64 k ∧ TwoSt w wr pt pa pb sa sb t ∧ TInv ep sa sb t k ∧ t.row.length ≤ 16 * k) (fun ix _ => rs.length - (intOf ix).toNat)
  case atStart => exact ⟨0, _, _, _, by omega, by omega, rfl, unhide HT3, unhide HI3, by simp⟩
  case round =>
    obtain ⟨k, sa, sb, t, hk, hk300, rfl, ht, hi, hrl⟩ := hrel
    have HT := hide ht; have HI := hide hi
    clear ht hi ft3 HT3 HI3
    by_cases hgo : k < rs.length ∧ k < 300
    · obtain ⟨hlt, h300⟩ := hgo
      obtain ⟨x, hx⟩ : ∃ x, rs[k]? = some x := ⟨rs[k], List.getElem?_eq_getElem hlt⟩
      obtain ⟨ad, hAd, hadl, c0, c1, c2, hrd, hbl, hbc⟩ := ((unhide HIN).below (unhide HT).bel) k x hx
      obtain ⟨kd, i, b, Ab, cb⟩ := x
      simp only at c0 c1 c2 hrd hbl hbc
      subst hAd
      rw [← Addr.add_add] at c1 c2
      have e1 : wr.cell? ⟨(ad.add (k * 3)).block, (ad.add (k * 3)).off + 1, none⟩ = some (.int .i64 i) := c1
      have e2 : wr.cell? ⟨(ad.add (k * 3)).block, (ad.add (k * 3)).off + 2, none⟩ = some (.slice Ab b.length cb) := c2
      clear hx c1 c2
      have HM0 := hide ((Mem.start wr).new (t := 43) (cs := moveCells 0 0 none 0 0) wr.heap.size rfl)
      go_upto_region 8 with (refine wpList_store_blk rfl 43 (.tmp 7) (.tmp 39) rfl (wr.heap.size) _ (by rfl) (by rfl) 43 _ (unhide HM0).blk0 (by kernel_rfl) (by rfl) (by simp [Value.oneCell']) ?_; intro w3 hbS hgS; have HM3 := hide ((unhide HM0).grown0 hbS hgS); have HGw3 := hide hgS; clear hbS hgS)
      have fo3 := moveAt (unhide HM3).blk0
      have fz3 := (unhide HM3).blk0.frozen 2
      have HRD := hide hrd
      clear HM0 HGw3 e1 e2 c0 hrd
      go_upto_if 43 with fail
      go_cut [] (fun u => ∃ b2 : List UInt8, b2.length ≤ 100 ∧ RdB u w.heap.size Ab b2 ∧ Mem wr u [(wr.heap.size, 43, moveCells kd i Ab b2.length cb)])
      case first =>
        have HRD3 := hide ((unhide HRD).below ((unhide HM3).below.mono (unhide HT).size))
        have hszr := (unhide HT).size
        by_cases hlb : 100 < b.length
        · have f1 : decide ((100 : Int) < (b.length : Int)) = true := decide_eq_true (by omega)
          have f2 : (100 : Int) ≤ (cb : Int) := by omega
          go_wp2_with fail
          go_meet
          case rel =>
            have e : (b.take 100).length = 100 := by rw [List.length_take]; omega
            refine ⟨b.take 100, by omega, (unhide HRD3).take 100 |>.setCell (by simpa using hszr) _, ?_⟩
            rw [e]
            exact (unhide HM3).set0
        · have f1 : decide ((100 : Int) < (b.length : Int)) = false := decide_eq_false (by omega)
          go_wp2_with fail
          go_meet
          case rel => exact ⟨b, by omega, unhide HRD3, unhide HM3⟩
      case rest =>
        obtain ⟨b2, hb2, hrd2, hm2⟩ := hcut
        have HRD2 := hide hrd2; have HM2 := hide hm2
        have HT2 := hide ((unhide HT).new hm2.below)
        have fo2 := moveAt hm2.blk0
        have ft2 := twoAt (unhide HT2).tt.blk
        clear hrd2 hm2 fo3 fz3 HM3 HRD
        have HDO : Hid (Calls Try.prog 16 #[.pointer (some ⟨pt, 0, none⟩), .agg #[.int .i64 kd, .int .i64 i, .slice Ab b2.length cb]] wc (DoneT w pt pa pb ep (k + 1) (t.row.length + 16))) := hide (do_any w wc pt pa pb sa sb t ep k kd i Ab cb b2 (unhide HT2) (unhide HI) (by omega) (by omega) hb2 (unhide HRD2))
        by_cases c4 : 400 < t.row.length
        · have g1 : decide ((400 : Int) < (t.row.length : Int)) = true := decide_eq_true (by omega)
          by_cases k3 : kd = 3
          · have g2 : (kd == 3) = true := beq_iff_eq.2 k3
            have g2' : (kd != 3) = false := by rw [k3]; rfl
            clear k3
            go_wp2_with (go_at_call 16; refine (unhide HDO).mono ?_; rintro _ w5 ⟨rfl, sa', sb', t', ht5, hi5, hr5⟩)
            exact ⟨⟨k + 1, sa', sb', t', by omega, by omega, by go_num, ht5, hi5, by omega⟩, by simp [intOf]; omega⟩
          · have g2 : (kd == 3) = false := beq_eq_false_iff_ne.2 k3
            have g2' : (kd != 3) = true := by simp [k3]
            by_cases k5 : kd = 5
            · have g3 : (kd == 5) = true := beq_iff_eq.2 k5
              have g3' : (kd != 5) = false := by rw [k5]; rfl
              clear k3 k5
              go_wp2_with (go_at_call 16; refine (unhide HDO).mono ?_; rintro _ w5 ⟨rfl, sa', sb', t', ht5, hi5, hr5⟩)
              exact ⟨⟨k + 1, sa', sb', t', by omega, by omega, by go_num, ht5, hi5, by omega⟩, by simp [intOf]; omega⟩
            · have g3 : (kd == 5) = false := beq_eq_false_iff_ne.2 k5
              have g3' : (kd != 5) = true := by simp [k5]
              clear k3 k5
              go_wp2_with fail
              exact ⟨⟨k + 1, sa, sb, t, by omega, by omega, by go_num, unhide HT2, (unhide HI).mono (Nat.le_succ _), by omega⟩, by simp [intOf]; omega⟩
        · have g1 : decide ((400 : Int) < (t.row.length : Int)) = false := decide_eq_false (by omega)
          go_wp2_with (go_at_call 16; refine (unhide HDO).mono ?_; rintro _ w5 ⟨rfl, sa', sb', t', ht5, hi5, hr5⟩)
          exact ⟨⟨k + 1, sa', sb', t', by omega, by omega, by go_num, ht5, hi5, by omega⟩, by simp [intOf]; omega⟩
    · rcases Nat.lt_or_ge k rs.length with hlt | hlt
      all_goals
        go_wp2_with (go_at_call 15; refine (unhide HA _).mono ?_; rintro _ w5 ⟨rfl, hb5⟩)
        go_ret
        exact ⟨rfl, (unhide HT).bel.trans (hb5.mono (unhide HT).size)⟩
end Go.Proofs.Ytmmkjphkfhgcpaa
