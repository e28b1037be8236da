/- The walk of LinkEnds. -/
import Derived.Test.YtmmkjphkfhgcpaaLinkTwoDo
import Derived.Test.YtmmkjphkfhgcpaaLinkMoveOpen
import Derived.Test.YtmmkjphkfhgcpaaLinkTwoEnds
namespace Go.Proofs.Ytmmkjphkfhgcpaa
set_option linter.unusedVariables false
open Go.RowKit

set_option maxHeartbeats 8000000 in
set_option maxRecDepth 20000 in
theorem linkEnds_any (ep : Int) (A : Option Addr) (c : Nat) (rs : List Mv) (w : World) (hin : InMoves w w.heap.size A rs) (hc : rs.length ≤ c) (hc2 : c ≤ 9223372036854775807) :
    Calls Try.prog 5 #[.int .i64 ep, .slice A rs.length c] w fun e w' => e = .returned (.bool true) ∧ Below w.heap.size w w' := by
  have HA := hide awake_any
  have HIN := hide hin
  clear hin
  go_enter Try.func5, Try.ntmps5
  go_upto_region 2 with (go_at_call 10; refine (new_e ep _).mono ?_
                         first
                         | (have _t := hs1; rintro _ w2 ⟨pb, rfl, he2, hm2, hb2⟩; have HE2 := hide he2; have HM2 := hide hm2; have HB2 := hide hb2; clear he2 hm2 hb2)
                         | (rintro _ w1 ⟨pa, rfl, he1, hm1, hb1⟩; have hs1 := hb1.size; have HE1 := hide he1; have HM1 := hide hm1; have HB1 := hide hb1; clear he1 hm1 hb1))
  obtain ⟨w3, hw3⟩ : ∃ u, w2.alloc (.cells (twoCells pa pb ⟨none, 0, [], none, 0, [], none, 0, []⟩) 41) = u := ⟨_, rfl⟩
  have hst := two_start (unhide HE1) (unhide HM1) (unhide HB1) (unhide HE2) (unhide HM2) (unhide HB2)
  rw [hw3] at hst
  have hw3' : w2.alloc (.cells #[.pointer (some ⟨pa, 0, none⟩), .pointer (some ⟨pb, 0, none⟩), .slice none 0 0, .slice none 0 0, .slice none 0 0] 41) = w3 := hw3
  rw [hw3']
  have HT3 := hide hst.1; have HI3 := hide hst.2
  clear hst hw3 hw3' HE1 HM1 HB1 HE2 HM2 HB2 hs1
  generalize w2.heap.size = pt at HT3 ⊢
  generalize newS ep w.heap.size = sa0 at HT3 HI3
  generalize newS ep w1.heap.size = sb0 at HT3 HI3
  have ft3 := twoAt (unhide HT3).tt.blk
  go_wp2_with fail
  go_loopw [6] (fun ix wr => ∃ (k : Nat) (sa sb : LS) (t : TR), k ≤ rs.length ∧ k ≤ 150 ∧ ix = .int .i64 k ∧ TwoSt w wr pt pa pb sa sb t ∧ TInv ep sa sb t k ∧ t.row.length ≤ 16 * k) (fun ix _ => rs.length - (intOf ix).toNat)
  case atStart => exact ⟨0, _, _, _, by omega, by omega, rfl, unhide HT3, unhide HI3, by simp⟩
  case round =>
    obtain ⟨k, sa, sb, t, hk, hk150, rfl, ht, hi, hrl⟩ := hrel
    have HT := hide ht; have HI := hide hi
    clear ht hi ft3 HT3 HI3
    by_cases hgo : k < rs.length ∧ k < 150
    · obtain ⟨hlt, h150⟩ := hgo
      obtain ⟨x, hx⟩ : ∃ x, rs[k]? = some x := ⟨rs[k], List.getElem?_eq_getElem hlt⟩
      obtain ⟨ad, hAd, hadl, c0, c1, c2, hrd, hbl, hbc⟩ := ((unhide HIN).below (unhide HT).bel) k x hx
      obtain ⟨kd, i, b, Ab, cb⟩ := x
      simp only at c0 c1 c2 hrd hbl hbc
      subst hAd
      rw [← Addr.add_add] at c1 c2
      have e1 : wr.cell? ⟨(ad.add (k * 3)).block, (ad.add (k * 3)).off + 1, none⟩ = some (.int .i64 i) := c1
      have e2 : wr.cell? ⟨(ad.add (k * 3)).block, (ad.add (k * 3)).off + 2, none⟩ = some (.slice Ab b.length cb) := c2
      clear hx c1 c2
      have HM0 := hide ((Mem.start wr).new (t := 43) (cs := moveCells 0 0 none 0 0) wr.heap.size rfl)
      go_upto_region 8 with (refine wpList_store_blk rfl 43 (.tmp 7) (.tmp 45) rfl (wr.heap.size) _ (by rfl) (by rfl) 43 _ (unhide HM0).blk0 (by kernel_rfl) (by rfl) (by simp [Value.oneCell']) ?_; intro w3 hbS hgS; have HM3 := hide ((unhide HM0).grown0 hbS hgS); have HGw3 := hide hgS; clear hbS hgS)
      have fo3 := moveAt (unhide HM3).blk0
      have fz3 := (unhide HM3).blk0.frozen 2
      have HRD := hide hrd
      clear HM0 HGw3 e1 e2 c0 hrd
      go_upto_if 49 with fail
      go_cut [] (fun u => ∃ b2 : List UInt8, b2.length ≤ 100 ∧ RdB u w.heap.size Ab b2 ∧ Mem wr u [(wr.heap.size, 43, moveCells kd i Ab b2.length cb)])
      case first =>
        have HRD3 := hide ((unhide HRD).below ((unhide HM3).below.mono (unhide HT).size))
        have hszr := (unhide HT).size
        by_cases hlb : 100 < b.length
        · have f1 : decide ((100 : Int) < (b.length : Int)) = true := decide_eq_true (by omega)
          have f2 : (100 : Int) ≤ (cb : Int) := by omega
          go_wp2_with fail
          go_meet
          case rel =>
            have e : (b.take 100).length = 100 := by rw [List.length_take]; omega
            refine ⟨b.take 100, by omega, (unhide HRD3).take 100 |>.setCell (by simpa using hszr) _, ?_⟩
            rw [e]
            exact (unhide HM3).set0
        · have f1 : decide ((100 : Int) < (b.length : Int)) = false := decide_eq_false (by omega)
          go_wp2_with fail
          go_meet
          case rel => exact ⟨b, by omega, unhide HRD3, unhide HM3⟩
      case rest =>
        obtain ⟨b2, hb2, hrd2, hm2⟩ := hcut
        have HRD2 := hide hrd2; have HM2 := hide hm2
        have HT2 := hide ((unhide HT).new hm2.below)
        have fo2 := moveAt hm2.blk0
        have ft2 := twoAt (unhide HT2).tt.blk
        clear hrd2 hm2 fo3 fz3 HM3 HRD
        have HDO : Hid (Calls Try.prog 16 #[.pointer (some ⟨pt, 0, none⟩), .agg #[.int .i64 kd, .int .i64 i, .slice Ab b2.length cb]] wc (DoneT w pt pa pb ep (k + 1) (t.row.length + 16))) := hide (do_any w wc pt pa pb sa sb t ep k kd i Ab cb b2 (unhide HT2) (unhide HI) (by omega) (by omega) hb2 (unhide HRD2))
        go_wp2_with (go_at_call 16; refine (unhide HDO).mono ?_; rintro _ w5 ⟨rfl, sa', sb', t', ht5, hi5, hr5⟩)
        exact ⟨⟨k + 1, sa', sb', t', by omega, by omega, by go_num, ht5, hi5, by omega⟩, by simp [intOf]; omega⟩
    ·
      obtain ⟨wm, hwm⟩ : ∃ u : World, u = wr := ⟨_, rfl⟩
      subst hwm
      have hs150 := (unhide HI).sl
      have HI0 := hide ((unhide HI).mono (show k ≤ 150 by omega))
      have hout : k = rs.length ∨ k = 150 := by omega
      obtain ⟨i0, hi0, hz0, hz1, hz2⟩ := info_parts slinfo
      rcases Nat.lt_or_ge k rs.length with hlt | hlt
      all_goals
        go_wp2_with fail
        go_loopw [58] (fun ix wx => ∃ (n : Nat) (sa' sb' : LS) (t' : TR), n ≤ 12 ∧ ix = .int .i64 n ∧ TwoSt w wx pt pa pb sa' sb' t' ∧ TInv ep sa' sb' t' (150 + 17 * n) ∧ t'.sent.length ≤ 150 ∧ (16 * (n : Int) ≤ sa'.sent ∨ (t'.sent.length : Int) ≤ sa'.sent)) (fun ix _ => 12 - (intOf ix).toNat)
        case atStart => exact ⟨0, sa, sb, t, by omega, rfl, unhide HT, unhide HI0, by omega, .inl (by have := (unhide HI).rlen; omega)⟩
        case round =>
          obtain ⟨n, sa1, sb1, t1, hn, rfl, ht, hi, hs1, hpr⟩ := hrel
          obtain ⟨wo, hwo⟩ : ∃ wo : World, wo = wr := ⟨_, rfl⟩
          subst hwo
          have HT1 := hide ht; have HI1 := hide hi
          have hrl1 := hi.rlen
          have ft1 := twoAt ht.tt.blk
          have hszw := ht.size
          have hqs := hi.ia.q
          clear ht hi HT HI HI0
          by_cases hn12 : n < 12
          · go_upto_region 15 with (go_at_call 12; go_must ((refine (out_end pa sa1 _ (unhide HT1).ea (by omega) (by omega) (by omega)).mono ?_; rintro _ w2 ⟨m, Ao, co, q, rfl, hm, hql, hqm, hrow, hlq, hbel, hst, _, _⟩; have HT2 := hide ((unhide HT1).new hbel); have HQM := hide hqm; have HQL := hide hql; have HROW := hide hrow; have HLQ := hide hlq; have hm16 : m ≤ 16 := (by omega); have hmin := hide hm; have hbase := hbel.size; clear hm hql hqm hrow hlq hbel hst)))
            go_loopw [66] (fun jx wy => ∃ (j : Nat) (sb' : LS) (t' : TR), j ≤ m ∧ jx = .int .i64 j ∧ TwoSt w wy pt pa pb sa1 sb' t' ∧ TInv ep sa1 sb' t' (150 + 17 * n + j) ∧ t'.sent = t1.sent ∧ sa1.sent + j ≤ t'.came.length ∧ wy.ownsRow wo.heap.size 31 5 (.slice Ao m co) m (outCells sa1.ep sa1.sent sa1.got 0 q) ∧ Lie wy q) (fun jx _ => m - (intOf jx).toNat)
            case atStart => exact ⟨0, sb1, t1, by omega, rfl, unhide HT2, unhide HI1, rfl, by omega, unhide HROW, unhide HLQ⟩
            case round =>
              obtain ⟨j, sb2, t2, hj, rfl, ht, hi, hse, hca, hr, hlq⟩ := hrel
              obtain ⟨wy, hwy⟩ : ∃ u : World, u = wr := ⟨_, rfl⟩
              subst hwy
              have HT := hide ht; have HI := hide hi; have HR := hide hr; have HLR := hide hlq; have HSE := hide hse
              have hsz := ht.size
              have hcl3 := hi.rlen
              clear ht hi hr hlq hse HT2 HROW HLQ ft1
              by_cases hjm : j < m
              · have hjq : j < q.length := by have := unhide HQL; omega
                obtain ⟨y, hy⟩ : ∃ y, q[j]? = some y := ⟨q[j], List.getElem?_eq_getElem hjq⟩
                have HY := hide hy
                obtain ⟨g, cap, hv, hgb, hgl⟩ := (unhide HR).form (by omega)
                obtain rfl : Ao = some ⟨g, 0, none⟩ := by injection hv
                obtain ⟨a0, a1, a2, a3, a4⟩ := outCells_at sa1.ep sa1.sent sa1.got q 0 j y hy
                have cx0 := ((unhide HR).cellAt (j * 5) (by omega)).trans a0
                have cx1 := ((unhide HR).cellAt (j * 5 + 1) (by omega)).trans a1
                have cx2 : wy.cell? ⟨g, j * 5 + 2, none⟩ = some (.int .i64 (sa1.sent + 1 + (j : Int))) := ((unhide HR).cellAt (j * 5 + 2) (by omega)).trans (by rw [a2, Nat.zero_add])
                have cx3 := ((unhide HR).cellAt (j * 5 + 3) (by omega)).trans a3
                have cx4 := ((unhide HR).cellAt (j * 5 + 4) (by omega)).trans a4
                have HM0 := hide ((Mem.start wy).new (t := 31) (cs := #[.int .i64 0, .int .i64 0, .int .i64 0, .int .i64 0, .slice none 0 0]) wy.heap.size rfl)
                clear a0 a1 a2 a3 a4 hy hv
                go_upto_region 17 with (refine wpList_store_blk rfl 31 (.tmp 9) (.tmp 69) rfl (wy.heap.size) _ (by rfl) (by rfl) 31 _ (unhide HM0).blk0 (by kernel_rfl) (by rfl) (by simp [Value.oneCell']) ?_; intro w3 hbS hgS; have HM3 := hide ((unhide HM0).grown0 hbS hgS); have HGw3 := hide hgS; clear hbS hgS)
                have HT3 := hide ((unhide HT).new (unhide HM3).below)
                have HT3d := hide (unhide HT3).drew
                have fx3 := Lnk.cellsAt (unhide HM3).blk0
                have ft3 := (twoAt (unhide HT3).tt.blk).2.1
                have HR3 : Hid (w3.drew.ownsRow wo.heap.size 31 5 (.slice (some ⟨g, 0, none⟩) m co) m (outCells sa1.ep sa1.sent sa1.got 0 q)) := hide ((own_below (unhide HR) (unhide HM3).below (fun k hk => ((unhide HR).lt k hk).2)).drew)
                have HLR3 := hide (fun x hx => ((unhide HLR x hx).1.stays (Stays.of_below (unhide HM3).below (Nat.le_refl _))).stays (Stays.drew w3))
                have hyl := (unhide HLR y (List.mem_of_getElem? (unhide HY))).2
                have hyl2 := hyl.2
                have HFT : Hid (∀ k, Foot pb sb2 k → k < wy.heap.size) := hide (unhide HT).eb.foot
                have hz : (sa1.r.map (·.1))[j]? = some y.1 := by
                  have h1 := congrArg (fun l => l[j]?) (unhide HQM)
                  simp only [List.getElem?_map, unhide HY, Option.map_some] at h1
                  rw [List.getElem?_take_of_lt hjm] at h1
                  exact h1.symm
                obtain ⟨o1, o2, o3⟩ := (unhide HI).outOne (i := j) (z := y) (z0 := []) (by omega) hz
                have hsq : sa1.sent + 1 + (j : Int) ≤ 9223372036854775807 := by omega
                have hac : sa1.got ≤ 9223372036854775807 := by omega
                have HX5 : Hid (sa1.ep = ep ∧ sa1.got = 0 ∧ ∃ n : Nat, sa1.sent + 1 + (j : Int) = n + 1 ∧ sa1.sent + 1 + (j : Int) ≤ sa1.sent + 16 ∧ ∃ z : Body, t2.sent[n]? = some z ∧ z.1 = y.1) := hide ⟨o1, o2, o3⟩
                clear HM0 HGw3 cx0 cx1 cx2 cx3 cx4 o1 o2 o3 hz hyl
                go_region_held3 (fun u => u.cell? ⟨pt, 1, none⟩ = some (.pointer (some ⟨pb, 0, none⟩)) ∧ u.cell? ⟨wy.heap.size, 0, none⟩ = some (.int .i64 0) ∧ u.cell? ⟨wy.heap.size, 1, none⟩ = some (.int .i64 sa1.ep) ∧ u.cell? ⟨wy.heap.size, 2, none⟩ = some (.int .i64 (sa1.sent + 1 + (j : Int))) ∧ u.cell? ⟨wy.heap.size, 3, none⟩ = some (.int .i64 sa1.got) ∧ u.cell? ⟨wy.heap.size, 4, none⟩ = some (.slice y.2.1 y.1.length y.2.2)) (first | exact ⟨ft5a, fx5⟩ | assumption | go_keep)
                  (first
                    | (go_at_call 14; go_must ((refine (in_end pb sb2 (150 + 17 * n + j) 0 sa1.ep (sa1.sent + 1 + (j : Int)) sa1.got y.2.1 y.1 y.2.2 _ (unhide HT3d).eb (unhide HI).ib (by omega) (fun u hu => (unhide HLR3 y (List.mem_of_getElem? (unhide HY))).onlyP hu (fun k hk => ⟨_, _, hk ▸ (unhide HT3d).eb.blk, by decide⟩)) hyl2 hac hsq).mono ?_; rintro _ w5 ⟨sb3, q5, Ao5, co5, er, rfl, hrow5, hok5, hst5, hi5, _, hin5⟩; have HT5 := hide ((unhide HT3d).stepB hst5); have HRow5 := hide hrow5; have HOK5 := hide hok5; have hqn := hin5.few ((unhide HI).ib.mono (Nat.le_succ _)) hi5; have HIN5 := hide (And.intro hin5 hi5); have fx5 := Lnk.cellsAt (((unhide HM3).blk0.drew).only hst5.only (fun h => Nat.lt_irrefl _ (unhide HFT _ h))); have ft5a := (twoAt (unhide HT5).tt.blk).2.1; have HR5 := hide ((unhide HT3d).eb.frames hst5.only (unhide HR3)); have HBY5 := hide hst5.by_; have hsz5 := hst5.only.size; clear hrow5 hok5 hst5 hi5 hin5))))
                all_goals
                  have ft5 := (twoAt (unhide HT5).tt.blk).2.2.2.2
                  have ff5 := (unhide HT5).tt.blk.frozen 4
                  obtain ⟨her, _, _⟩ := (unhide HI).inB (x := (sa1.ep, sa1.sent + 1 + (j : Int), sa1.got, y, true)) (cA := none) (cc := 0) (unhide HX5) (unhide HIN5).1 (unhide HIN5).2
                  subst her
                  have hq1 : q5.length ≤ 100000 := by omega
                  have hcc2 : t2.came.length ≤ 150 := by omega
                  have hccm := own_cap (unhide HT5).tt.came
                  have hszw5 := (unhide HT5).size
                  clear ft5a fx5 fx3 ft3
                all_goals
                  go_wp2_with (refine wpList_append_any _ rfl (.tmp 85) (.tmp 86) _ rfl w.heap.size 22 i0 _ 1 24 Try.underlying32 hi0 hz0 hz1 hz2 rfl (by omega) _ t2.came.length _ (by rfl) (unhide HT5).tt.came _ Ao5 q5.length co5 _ (by rfl) (RdV.of_own (unhide HRow5)) (by simp [rowOf]) (rowOf_one _) (by simp only [maxLen]; omega) (by omega) (by omega) ?_
                               intro A6 c6 w6 hown6 hg6 hat6 hbel6 hcc6
                               have hT6 := (unhide HT5).pushCame (q := q5) hown6 hg6 hat6 (unhide HOK5); have HT6 := hide hT6
                               have hkp := (unhide HT5).framesC (i := 4) (v' := .slice A6 (t2.came.length + q5.length) c6) hg6 (unhide HR5); have HKP := hide hkp
                               have hq6 := (unhide HT5).tt.blk.grown hg6 (fun e => (unhide HT5).tt.apart.2.2.1 e.symm)
                               have ft6 := twoAt hq6; have ff6 := hq6.frozen 4; clear hown6 hg6 hat6 hbel6 hcc6 hT6 hq6 hkp)
                all_goals
                  obtain ⟨_, hinv, hprog⟩ := (unhide HI).inB (x := (sa1.ep, sa1.sent + 1 + (j : Int), sa1.got, y, true)) (cA := A6) (cc := c6) (unhide HX5) (unhide HIN5).1 (unhide HIN5).2
                  have hp2 := hprog (by show sa1.sent + 1 + (j : Int) ≤ _; omega)
                  refine ⟨⟨j + 1, sb3, _, by omega, by go_num, unhide HT6, hinv, unhide HSE, ?_, (unhide HKP).1, fun z hz => ⟨((unhide HLR3 z hz).by (unhide HBY5)).by (unhide HKP).2, (unhide HLR z hz).2⟩⟩, by simp [intOf]; omega⟩
                  show sa1.sent + ((j + 1 : Nat) : Int) ≤ ((t2.came ++ q5).length : Nat)
                  have : sa1.sent + 1 + (j : Int) ≤ ((t2.came ++ q5).length : Nat) := hp2
                  omega
              · obtain rfl : j = m := by omega
                have HTd := hide (unhide HT).drew
                have ft := twoAt (unhide HT).tt.blk
                have hgb : sb2.got = t2.came.length := (unhide HI).gotb
                have HGB := hide hgb
                have hgb0 : 0 ≤ sb2.got := by omega
                have hac : sb2.got ≤ 9223372036854775807 := by omega
                have hepb := hide (unhide HI).epb
                have hslen : t2.sent.length = t1.sent.length := by rw [unhide HSE]
                have hmn : j = min sa1.r.length 16 := unhide hmin
                have hprog : 16 * ((n : Int) + 1) ≤ max sa1.sent sb2.got ∨ (t2.sent.length : Int) ≤ max sa1.sent sb2.got := by omega
                have hK2 : 150 + 17 * n + j + 1 ≤ 150 + 17 * (n + 1) := by omega
                clear hslen hmn hgb
                go_upto_region 22 with fail
                go_region_held3 (fun u => u.cell? ⟨pt, 0, none⟩ = some (.pointer (some ⟨pa, 0, none⟩)) ∧ u.cell? ⟨pt, 1, none⟩ = some (.pointer (some ⟨pb, 0, none⟩))) (first | exact ft5 | exact ft6 | assumption | go_keep)
                  (first
                    | (go_at_call 17; go_must ((refine (note_end pb sb2 [] none 0 0 _ (unhide HTd).eb RdB.nil (Nat.zero_le _) (by simp)).mono ?_; rintro _ w5 ⟨A2, c2, rfl, hrt5, hlc5, hb5, _⟩; have hT5 := (unhide HTd).new hb5; have HT5 := hide hT5; have ft5 := And.intro (twoAt hT5.tt.blk).1 (twoAt hT5.tt.blk).2.1; clear hrt5 hb5 hT5)))
                    | (go_at_call 14; go_must ((refine (in_end pa sa1 (150 + 17 * n + j) 0 sb2.ep 0 sb2.got A2 [] c2 _ (unhide HT5).ea (unhide HI).ia (by omega) (fun u hu => RdB.nil) (by simp) hac (by omega)).mono ?_; rintro _ w6 ⟨sa3, q5, Ao5, co5, er, rfl, hrow6, hok6, hst6, hi6, _, hin6⟩; have hT6 := (unhide HT5).stepA hst6; have HT6 := hide hT6; have ft6 := And.intro (twoAt hT6.tt.blk).1 (twoAt hT6.tt.blk).2.1; have HIN6 := hide (And.intro hin6 hi6); clear hrow6 hok6 hst6 hi6 hin6 hT6))))
                all_goals
                  obtain ⟨hq0, her, hinv, hsn⟩ := (unhide HI).inA (x := (sb2.ep, 0, sb2.got, ([], A2, c2), false)) ⟨unhide hepb, rfl, hgb0, by show sb2.got ≤ _; rw [unhide HGB]; exact Int.le_refl _⟩ (unhide HIN6).1 (unhide HIN6).2
                  have fq0 : decide ((0 : Int) < (q5.length : Int)) = false := by rw [hq0]; rfl
                  have fq1 : decide (0 < q5.length) = false := by rw [hq0]; rfl
                  have fq2 : ¬ 0 < q5.length := by rw [hq0]; simp
                  subst her
                  have HINV := hide hinv
                  have HSN := hide hsn
                  clear hq0 hinv hsn
                all_goals go_wp2_with fail
                all_goals exact ⟨⟨n + 1, sa3, sb2, t2, by omega, by go_num, unhide HT6, (unhide HINV).mono hK2, by rw [unhide HSE]; exact hs1, by rw [unhide HSN]; exact hprog⟩, by simp [intOf]; omega⟩
          · obtain rfl : n = 12 := by omega
            have hall : (t1.came.length : Int) = t1.sent.length ∧ sa1.r.length = 0 := by omega
            obtain ⟨hall, hr0⟩ := hall
            have hall' : t1.came.length = t1.sent.length := by omega
            have hlen2 : t1.came.length ≤ 150 := by omega
            have HSM : Hid (∀ u, TwoSt w u pt pa pb sa1 sb1 t1 → Calls Try.prog 18 #[.slice t1.cA t1.came.length t1.cc, .slice t1.tA t1.sent.length t1.tc] u fun e w' => e = .returned (.bool true) ∧ ∃ m, w' = u.drewN m) := hide (fun u ht => by
              have hcm := (unhide HI1).cm
              rw [hall', List.take_length] at hcm
              rw [← hall']
              exact sameRows_any t1.came t1.sent t1.cA t1.tA t1.cc t1.tc _ _ u.heap.size u (RdV.of_own ht.tt.came) (RdV.of_own ht.tt.sent) hcm (fun x hx => (ht.tt.lieC x hx).1.rd) (fun x hx => (ht.src x hx).more ht.size) (by omega))
            have HR0 := hide hr0
            have hsent := (unhide HI1).ia.sent
            have hs0 := (unhide HI1).ia.s0
            have hs1 : sa1.sent ≤ 1099511627776 := by omega
            clear hall hall' hr0 hsent
            go_upto_region 26 with fail
            go_region_held3 (fun u => u.cell? ⟨pt, 0, none⟩ = some (.pointer (some ⟨pa, 0, none⟩)) ∧ u.cell? ⟨pt, 3, none⟩ = some (.slice t1.tA t1.sent.length t1.tc) ∧ u.cell? ⟨pt, 4, none⟩ = some (.slice t1.cA t1.came.length t1.cc)) (first | exact ft5 | exact ft6 | exact ft7 | assumption | go_keep)
              (first
                | (go_at_call 15; go_must ((refine (unhide HA _).mono ?_; rintro _ w5 ⟨rfl, hb5⟩; have hT5 := (unhide HT1).drew.new hb5; have HT5 := hide hT5; have ft5 := And.intro (twoAt hT5.tt.blk).1 (twoAt hT5.tt.blk).2.2.2; clear hb5 hT5)))
                | (go_at_call 18; go_must ((refine (unhide HSM _ (unhide HT5)).mono ?_; rintro _ w6 ⟨rfl, n6, rfl⟩; have hT6 := (unhide HT5).drewN n6; have HT6 := hide hT6; have ft6 := And.intro (twoAt hT6.tt.blk).1 (twoAt hT6.tt.blk).2.2.2; clear hT6)))
                | (go_at_call 19; go_must ((refine (waiting_end pa sa1 _ (unhide HT6).ea).mono ?_; rintro _ w7 ⟨rfl, rfl⟩; rw [unhide HR0])))
                | (go_at_call 12; go_must ((refine (out_end pa sa1 _ (unhide HT6).ea (by omega) hs0 hs1).mono ?_; rintro _ w8 ⟨m8, Ao8, co8, q8, rfl, hm8, _, _, _, _, hbel8, _, _, _⟩; obtain rfl : m8 = 0 := (by rw [hm8, unhide HR0]; rfl); have hT8 := (unhide HT6).new hbel8; have HB8 := hide hT8.bel; have ft7 := And.intro (twoAt hT8.tt.blk).1 (twoAt hT8.tt.blk).2.2.2; clear hbel8 hT8 hm8))))
            all_goals go_wp2_with fail
            all_goals
              go_ret
              exact ⟨rfl, unhide HB8⟩
end Go.Proofs.Ytmmkjphkfhgcpaa
