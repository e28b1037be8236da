/- A frame on its way comes. -/
import Derived.Test.YtmmkjphkfhgcpaaLinkTwoDoBase
namespace Go.Proofs.Ytmmkjphkfhgcpaa
set_option linter.unusedVariables false
open Go.RowKit


set_option maxHeartbeats 16000000 in
set_option maxRecDepth 20000 in
theorem do_comes (w0 w : World) (pt pa pb : Nat) (sa sb : LS) (t : TR) (ep : Int) (K : Nat) (i : Int) (Ab : Option Addr) (c : Nat) (b : List UInt8) (h : TwoSt w0 w pt pa pb sa sb t) (hi : TInv ep sa sb t K) (hK : K ≤ 3000) (hrl : t.row.length ≤ 100000) (hb : b.length ≤ 100) (hrd : RdB w w0.heap.size Ab b) :
    Calls Try.prog 16 #[.pointer (some ⟨pt, 0, none⟩), .agg #[.int .i64 3, .int .i64 i, .slice Ab b.length c]] w (DoneT w0 pt pa pb ep (K + 1) (t.row.length + 16)) := by
  have hb0 : Below w.heap.size w (w.alloc (.cells (moveCells 3 i Ab b.length c) 43)) := (Below.refl _ _).alloc (Nat.le_refl _) _
  have HT1 := hide (h.new hb0)
  have HOB : Hid (Blk (w.alloc (.cells (moveCells 3 i Ab b.length c) 43)) w.heap.size 43 (moveCells 3 i Ab b.length c)) := hide (Blk.new w _ _)
  have HRD := hide (hrd.below (hb0.mono h.size))
  have HI := hide hi
  have HOF : Hid (∀ k, Foot pa sa k ∨ Foot pb sb k ∨ TFoot pt t k → k < w.heap.size) := hide (fun k hk => by
    rcases hk with hk | hk | hk
    · exact h.ea.foot k hk
    · exact h.eb.foot k hk
    · exact (h.tt.mem hk).2)
  have hszw := h.size
  clear h hi hb0 hrd
  go_enter Try.func16, Try.ntmps16
  obtain ⟨w1, hw1⟩ : ∃ u, w.alloc (.cells (moveCells 3 i Ab b.length c) 43) = u := ⟨_, rfl⟩
  rw [hw1] at HT1 HOB HRD
  go_upto_region 1 with fail
  have hw1' : w.alloc (.cells #[.int .i64 3, .int .i64 i, .slice Ab b.length c] 43) = w1 := hw1
  rw [hw1']
  clear hw1 hw1'
  have fo1 := moveAt (unhide HOB)
  have ft1 := twoAt (unhide HT1).tt.blk
  go_upto_block 0 with fail
  go_cut [] (fun u => ∃ sa sb t', TwoSt w0 u pt pa pb sa sb t' ∧ TInv ep sa sb t' (K + 1) ∧ t'.row.length ≤ t.row.length + 16)
  case first =>
    obtain ⟨i0, hi0, hz0, hz1, hz2⟩ := info_parts slinfo
    have hrl1 := (unhide HI).rlen
    have hsl1 := (unhide HI).sl

    · have hN := unhide HI
      by_cases hr0 : t.row.length = 0
      · have fr0 : ((t.row.length : Int) == 0) = true := by rw [hr0]; rfl
        clear hr0 hN
        go_wp2_with fail
        go_ret
        exact ⟨rfl, _, _, _, unhide HT1, (unhide HI).mono (Nat.le_succ _), by omega⟩
      · have fr0 : ((t.row.length : Int) == 0) = false := beq_eq_false_iff_ne.2 (by omega)
        have fr1 : (0 : Int) < (t.row.length : Int) := by omega
        have hwl : IntKind.u64.wrap (t.row.length : Int) = (t.row.length : Int) := by rw [IntKind.wrap_u64]; omega
        clear hr0 hN
        obtain ⟨N, hN, hN2⟩ := umodT i (t.row.length : Int) (by omega) (by omega)
        obtain ⟨x, hx⟩ : ∃ x, t.row[N]? = some x := ⟨t.row[N]'(by omega), List.getElem?_eq_getElem (by omega)⟩
        have HN := hide hN
        have HX := hide hx
        obtain ⟨g, cap, hv, hgb, hgl⟩ := (unhide HT1).tt.row.form (by omega)
        have hA : t.rA = some ⟨g, 0, none⟩ := by injection hv
        have hrow := (unhide HT1).tt.row
        rw [rowV, hA] at hrow
        obtain ⟨a0, a1, a2, a3, a4, a5⟩ := wayCells_at t.row N x hx
        have HC : Hid (∀ n : Nat, (w1.drewN n).cell? ⟨g, N * 6, none⟩ = some (.int .i64 0) ∧ (w1.drewN n).cell? ⟨g, N * 6 + 1, none⟩ = some (.int .i64 x.1) ∧ (w1.drewN n).cell? ⟨g, N * 6 + 2, none⟩ = some (.int .i64 x.2.1) ∧ (w1.drewN n).cell? ⟨g, N * 6 + 3, none⟩ = some (.int .i64 x.2.2.1) ∧ (w1.drewN n).cell? ⟨g, N * 6 + 4, none⟩ = some (.slice x.2.2.2.1.2.1 x.2.2.2.1.1.length x.2.2.2.1.2.2) ∧ (w1.drewN n).cell? ⟨g, N * 6 + 5, none⟩ = some (.bool x.2.2.2.2)) :=
          hide (fun n => ⟨(hrow.cellAt (N * 6) (by omega)).trans a0, (hrow.cellAt (N * 6 + 1) (by omega)).trans a1, (hrow.cellAt (N * 6 + 2) (by omega)).trans a2, (hrow.cellAt (N * 6 + 3) (by omega)).trans a3, (hrow.cellAt (N * 6 + 4) (by omega)).trans a4, (hrow.cellAt (N * 6 + 5) (by omega)).trans a5⟩)
        have ft1' : w1.cell? ⟨pt, 2, none⟩ = some (.slice (some ⟨g, 0, none⟩) t.row.length t.rc) := by rw [← hA]; exact ft1.2.2.1
        have ft1a := ft1.1; have ft1b := ft1.2.1
        have HA := hide hA
        clear a0 a1 a2 a3 a4 a5 hx hrow hv hA ft1 hN
        have HOBn := HOB

        go_upto_region 18 with fail
        go_quiet (fail)
        rw [unhide HN]
        have fc := unhide HC nq
        have HM0 := hide ((Mem.start (w1.drewN nq)).new (t := 67) (cs := wayC (0, 0, 0, ([], none, 0), false)) (w1.drewN nq).heap.size rfl)
        go_upto_region 20 with (refine wpList_store_blk rfl 67 (.tmp 8) (.tmp 103) rfl (w1.heap.size) _ (by rfl) (by rfl) 67 _ (unhide HM0).blk0 (by kernel_rfl) (by rfl) (by simp [Value.oneCell']) ?_; intro w3 hbS hgS; have HM3 := hide ((unhide HM0).grown0 hbS hgS); have HGw3 := hide hgS; clear hbS hgS)
        have HT3 := hide (((unhide HT1).drewN nq).new (unhide HM3).below)
        have HOB3 : Hid (Blk w3 w.heap.size 43 (moveCells 3 i Ab b.length c)) := hide (((unhide HOB).drewN nq).below (unhide HM3).below ((unhide HOB).drewN nq).lt)
        have HW3 : Hid (Blk w3 w1.heap.size 67 (wayC x)) := hide (unhide HM3).blk0
        have fo3 := moveAt (unhide HOB3)
        have ft3 : w3.cell? ⟨pt, 0, none⟩ = some (.pointer (some ⟨pa, 0, none⟩)) ∧ w3.cell? ⟨pt, 1, none⟩ = some (.pointer (some ⟨pb, 0, none⟩)) ∧ w3.cell? ⟨pt, 2, none⟩ = some (.slice (some ⟨g, 0, none⟩) t.row.length t.rc) := by
          have h := twoAt (unhide HT3).tt.blk
          rw [unhide HA] at h
          exact ⟨h.1, h.2.1, h.2.2.1⟩
        clear fc HM0 HGw3 ft1a ft1b ft1'
        go_upto_if 106 with fail
        go_cut [] (fun u => ∃ (row : List Way) (rA : Option Addr) (rc : Nat), TwoSt w0 u pt pa pb sa sb { t with rA := rA, rc := rc, row := row } ∧ (∀ y ∈ row, y ∈ t.row) ∧ row.length ≤ t.row.length ∧ Blk u w.heap.size 43 (moveCells 3 i Ab b.length c) ∧ Blk u w1.heap.size 67 (wayC x) ∧ Okb u x.2.2.2.1)
        case first =>
          obtain ⟨j0, hj0, hy0, hy1, hy2⟩ := info_parts wayinfo
          have HT3n : Hid (∀ n, TwoSt w0 (w3.drewN n) pt pa pb sa sb t) := hide (fun n => (unhide HT3).drewN n)
          have hrd3 : RdV w3 w3.heap.size (some ⟨g, 0, none⟩) (wayCells t.row) := by
            have h := (unhide HT3).tt.row
            rw [rowV, unhide HA] at h
            exact RdV.of_own h
          have HS0 : Hid (∀ n, ((w3.drewN n).alloc (.cells #[] 67)).ownsRow w3.heap.size 67 6 (.slice (some ⟨w3.heap.size, 0, none⟩) 0 0) 0 []) := hide (fun n => World.ownsRow_lit (w3.drewN n) #[] 0 (Nat.le_refl _) (by simp [maxLen]) rfl)
          have HRA : Hid (∀ n, RdV ((w3.drewN n).alloc (.cells #[] 67)) w3.heap.size (some ⟨g, 0, none⟩) (wayCells (t.row.take N))) := hide (fun n => by
            have h := hrd3.take_ (N * 6)
            rw [wayCells_take] at h
            exact h.below ((below_drewN' (Below.refl _ _) n).alloc (Nat.le_refl _) _))
          have hNl : N < t.row.length := by omega
          have hrc : t.row.length ≤ t.rc := by
            have h := (unhide HT3).tt.row
            obtain ⟨A', c', hv, hc', _⟩ := own_form h
            injection hv with _ _ e
            omega
          have hrcm : t.rc ≤ 9223372036854775807 := own_cap (unhide HT3).tt.row
          have hpl3 := (unhide HT3).tt.blk.lt
          have ff3 := (unhide HT3).tt.blk.frozen 2
          have hc1 : (0 : Int) ≤ (N : Int) := by omega
          have hc0 : (0 : Int) ≤ (N : Int) + 1 := by omega
          have hc2 : (N : Int) ≤ (t.rc : Int) := by omega
          have hc3 : (N : Int) + 1 ≤ (t.row.length : Int) := by omega
          have hc4 : (t.row.length : Int) ≤ (t.rc : Int) := by omega
          have hw1 : IntKind.i64.wrap ((N : Int) + 1) = (N : Int) + 1 := by rw [IntKind.wrap_i64]; omega
          have htl : (t.row.take N).length = N := by rw [List.length_take]; omega
          have htd : (t.row.drop (N + 1)).length = t.row.length - (N + 1) := List.length_drop
          have HTL := hide htl; have HTD := hide htd
          clear htl htd
          have hpw : w.heap.size < w1.heap.size := (unhide HOB).lt
          by_cases hcap : t.rc = N + 1
          · have HRB : Hid (RdV w3 w3.heap.size (some ⟨g, 0, none⟩) (wayCells (t.row.drop (N + 1)))) := hide (fun hp => by
              rw [wayCells_len, List.length_drop] at hp
              omega)
            have hcz : (N : Int) ≤ (N : Int) + 1 := by omega
            have hlz : (t.row.length : Int) ≤ (N : Int) + 1 := by omega
            clear hrd3
            go_wp2_with fail
            go_region_law (first
              | (refine step_append_any _ rfl (.tmp 108) (.tmp 114) _ rfl w3.heap.size 67 j0 _ 6 64 Try.underlying39 hj0 hy0 hy1 hy2 rfl (by omega) _ 0 _ (by rfl) (unhide HS0 _) _ _ N _ _ (by rfl) (unhide HRA _) (by rw [wayCells_len, unhide HTL]) (wayCells_one _) (by simp only [maxLen]; omega) (by omega) (by simp) ?_
                 intro A4 c4 w4 hown4 hg4 hat4 hbel4 hcc4
                 rw [Nat.zero_add, List.nil_append] at hown4; rw [Nat.zero_add] at hcc4 ⊢
                 have hbel34 : Below w3.heap.size w3 w4 := ((below_drewN' (Below.refl _ _) _).alloc (Nat.le_refl _) _).trans hbel4
                 have HB4 := hide hbel34; have HS4 := hide hown4; have HT4 := hide ((unhide HT3).new hbel34); have ft4 : w4.cell? ⟨pt, 2, none⟩ = some (.slice (some ⟨g, 0, none⟩) t.row.length t.rc) := (by have h := (twoAt (unhide HT4).tt.blk).2.2.1; rw [unhide HA] at h; exact h); have ff4 := (unhide HT4).tt.blk.frozen 2; have HRB4 := hide ((unhide HRB).below hbel34); clear hown4 hg4 hat4 hbel4 hbel34)
              | (refine step_append_any _ rfl (.tmp 115) (.tmp 122) _ rfl w3.heap.size 67 j0 _ 6 64 Try.underlying39 hj0 hy0 hy1 hy2 rfl (by omega) _ N _ (by rfl) (unhide HS4) _ _ (t.row.length - (N + 1)) _ _ (by rfl) (unhide HRB4) (by rw [wayCells_len, unhide HTD]) (wayCells_one _) (by simp only [maxLen]; omega) (by omega) (by have := (unhide HB4).size; omega) ?_
                 intro A5 c5 w5 hown5 hg5 hat5 hbel5 hcc5
                 have hB5 := (unhide HB4).trans hbel5
                 have hrl5 : (t.row.take N ++ t.row.drop (N + 1)).length = N + (t.row.length - (N + 1)) := (by rw [List.length_append, unhide HTL, unhide HTD])
                 rw [← hrl5, ← wayCells_app] at hown5
                 have hT5 := (unhide HT3).setRow hB5 hown5 (fun y hy => (unhide HT3).tt.lieR y ((List.mem_append.1 hy).elim List.mem_of_mem_take List.mem_of_mem_drop))
                 rw [hrl5] at hT5
                 have HT5 := hide hT5; have hT5a := (unhide HT3).new hB5; have ft5 := twoAt hT5a.tt.blk; have ff5 := hT5a.tt.blk.frozen 2; have HB5 := hide hB5; clear hown5 hg5 hat5 hbel5 hB5 hT5 hT5a hrl5))
            all_goals go_wp2_with fail
            all_goals
              go_meet
              case rel =>
                have hpm := unhide HOF pt (.inr (.inr (.inl rfl)))
                have hwl := (unhide HOB3).lt
                have hne1 : w.heap.size ≠ pt := by omega
                have hne2 : w1.heap.size ≠ pt := by omega
                exact ⟨_, _, _, unhide HT5, fun y hy => (List.mem_append.1 hy).elim List.mem_of_mem_take List.mem_of_mem_drop, by rw [List.length_append, unhide HTL, unhide HTD]; omega, ((unhide HOB3).below (unhide HB5) (unhide HOB3).lt).far hne1 _, ((unhide HW3).below (unhide HB5) (unhide HW3).lt).far hne2 _, ((unhide HT3).tt.lieR x (List.mem_of_getElem? (unhide HX))).by ((unhide HT3).setRowBy (unhide HB5))⟩
          · have HRB : Hid (RdV w3 w3.heap.size (some ⟨g, (N + 1) * 6, none⟩) (wayCells (t.row.drop (N + 1)))) := hide (by
              have h := hrd3.drop_ ((N + 1) * 6)
              rw [wayCells_drop, add_zero_off] at h
              exact h)
            clear hrd3
            go_wp2_with fail
            go_region_law (first
              | (refine step_append_any _ rfl (.tmp 108) (.tmp 114) _ rfl w3.heap.size 67 j0 _ 6 64 Try.underlying39 hj0 hy0 hy1 hy2 rfl (by omega) _ 0 _ (by rfl) (unhide HS0 _) _ _ N _ _ (by rfl) (unhide HRA _) (by rw [wayCells_len, unhide HTL]) (wayCells_one _) (by simp only [maxLen]; omega) (by omega) (by simp) ?_
                 intro A4 c4 w4 hown4 hg4 hat4 hbel4 hcc4
                 rw [Nat.zero_add, List.nil_append] at hown4; rw [Nat.zero_add] at hcc4 ⊢
                 have hbel34 : Below w3.heap.size w3 w4 := ((below_drewN' (Below.refl _ _) _).alloc (Nat.le_refl _) _).trans hbel4
                 have HB4 := hide hbel34; have HS4 := hide hown4; have HT4 := hide ((unhide HT3).new hbel34); have ft4 : w4.cell? ⟨pt, 2, none⟩ = some (.slice (some ⟨g, 0, none⟩) t.row.length t.rc) := (by have h := (twoAt (unhide HT4).tt.blk).2.2.1; rw [unhide HA] at h; exact h); have ff4 := (unhide HT4).tt.blk.frozen 2; have HRB4 := hide ((unhide HRB).below hbel34); clear hown4 hg4 hat4 hbel4 hbel34)
              | (refine step_append_any _ rfl (.tmp 115) (.tmp 122) _ rfl w3.heap.size 67 j0 _ 6 64 Try.underlying39 hj0 hy0 hy1 hy2 rfl (by omega) _ N _ (by rfl) (unhide HS4) _ _ (t.row.length - (N + 1)) _ _ (by rfl) (unhide HRB4) (by rw [wayCells_len, unhide HTD]) (wayCells_one _) (by simp only [maxLen]; omega) (by omega) (by have := (unhide HB4).size; omega) ?_
                 intro A5 c5 w5 hown5 hg5 hat5 hbel5 hcc5
                 have hB5 := (unhide HB4).trans hbel5
                 have hrl5 : (t.row.take N ++ t.row.drop (N + 1)).length = N + (t.row.length - (N + 1)) := (by rw [List.length_append, unhide HTL, unhide HTD])
                 rw [← hrl5, ← wayCells_app] at hown5
                 have hT5 := (unhide HT3).setRow hB5 hown5 (fun y hy => (unhide HT3).tt.lieR y ((List.mem_append.1 hy).elim List.mem_of_mem_take List.mem_of_mem_drop))
                 rw [hrl5] at hT5
                 have HT5 := hide hT5; have hT5a := (unhide HT3).new hB5; have ft5 := twoAt hT5a.tt.blk; have ff5 := hT5a.tt.blk.frozen 2; have HB5 := hide hB5; clear hown5 hg5 hat5 hbel5 hB5 hT5 hT5a hrl5))
            all_goals go_wp2_with fail
            all_goals
              go_meet
              case rel =>
                have hpm := unhide HOF pt (.inr (.inr (.inl rfl)))
                have hwl := (unhide HOB3).lt
                have hne1 : w.heap.size ≠ pt := by omega
                have hne2 : w1.heap.size ≠ pt := by omega
                exact ⟨_, _, _, unhide HT5, fun y hy => (List.mem_append.1 hy).elim List.mem_of_mem_take List.mem_of_mem_drop, by rw [List.length_append, unhide HTL, unhide HTD]; omega, ((unhide HOB3).below (unhide HB5) (unhide HOB3).lt).far hne1 _, ((unhide HW3).below (unhide HB5) (unhide HW3).lt).far hne2 _, ((unhide HT3).tt.lieR x (List.mem_of_getElem? (unhide HX))).by ((unhide HT3).setRowBy (unhide HB5))⟩
        case rest =>
          obtain ⟨row, rA, rc, ht, hsub, hlen, hob, hw, hok⟩ := hcut
          have fob := moveAt hob
          have ftc := twoAt ht.tt.blk
          have fw := wayAt hw
          have HTc := hide ht; have HWc := hide hw; have HOK := hide hok
          have HIc := hide ((unhide HI).setRows row rA rc (fun y hy => .inl (hsub y hy)))
          have hro := (unhide HI).rows x (List.mem_of_getElem? (unhide HX))
          have hszc := ht.size
          have hww : w.heap.size < w1.heap.size := (unhide HOB).lt
          have hccm := own_cap ht.tt.came
          clear ht hsub hob hw hok fo3 ft3
          obtain ⟨x1, hro⟩ := hro
          rcases hro with ⟨xf, xa, n, xn, xs, y, xy, xb⟩ | ⟨xf, xn, xa0, xa1, xb⟩
          · rw [xf] at fw
            have HX5 : Hid (x.1 = ep ∧ x.2.2.1 = 0 ∧ ∃ n : Nat, x.2.1 = n + 1 ∧ x.2.1 ≤ sa.sent + 16 ∧ ∃ y : Body, t.sent[n]? = some y ∧ y.1 = x.2.2.2.1.1) := hide ⟨x1, xa, n, xn, xs, y, xy, xb⟩
            have HXF := hide xf
            have hsq : x.2.1 ≤ 9223372036854775807 := by omega
            have hac : x.2.2.1 ≤ 9223372036854775807 := by omega
            clear x1 xa xn xs xy xb xf
            go_upto_region 28 with (go_at_call 14; go_must ((refine (in_end pb sb K 0 x.1 x.2.1 x.2.2.1 x.2.2.2.1.2.1 x.2.2.2.1.1 x.2.2.2.1.2.2 _ (unhide HTc).eb (unhide HIc).ib (by omega) (fun u hu => (unhide HOK).1.onlyP hu (fun k hk => ⟨_, _, hk ▸ (unhide HTc).eb.blk, by decide⟩)) (unhide HOK).2.2 hac hsq).mono ?_; rintro _ w5 ⟨sb', q, Ao, co, er, rfl, hrow5, hok5, hst5, hi5, _, hin5⟩; have HT5 := hide ((unhide HTc).stepB hst5); have HRow5 := hide hrow5; have HOK5 := hide hok5; have hqn := hin5.few ((unhide HIc).ib.mono (Nat.le_succ _)) hi5; have HIN5 := hide (And.intro hin5 hi5); have fw5 := wayAt ((unhide HWc).only hst5.only (fun h => by have := unhide HOF _ (.inr (.inl h)); omega)); have hsz5 := hst5.only.size; clear hrow5 hok5 hst5 hi5 hin5)))
            have fw5b : w5.cell? ⟨w1.heap.size, 5, none⟩ = some (.bool true) := by rw [fw5.2.2.2.2.2, unhide HXF]
            have ft5 := twoAt (unhide HT5).tt.blk
            have ff5 := (unhide HT5).tt.blk.frozen 4
            clear fw5 fw fob ftc
            obtain ⟨her, _, _⟩ := (unhide HIc).inB (cA := none) (cc := 0) (unhide HX5) (unhide HIN5).1 (unhide HIN5).2
            clear her
            have hq1 : q.length ≤ 100000 := by omega
            have hcl := (unhide HIc).cl
            have hsl2 := (unhide HIc).sl
            have hcl2 : t.came.length ≤ 3000 := by have h1 : t.came.length ≤ t.sent.length := hcl; have h2 : t.sent.length ≤ K := hsl2; omega
            clear hcl hsl2
            go_wp2_with (refine wpList_append_any _ rfl (.tmp 158) (.tmp 159) _ rfl w0.heap.size 22 i0 _ 1 24 Try.underlying32 hi0 hz0 hz1 hz2 rfl (by omega) _ t.came.length _ (by rfl) (unhide HT5).tt.came _ Ao q.length co _ (by rfl) (RdV.of_own (unhide HRow5)) (by simp [rowOf]) (rowOf_one _) (by simp only [maxLen]; omega) (by omega) (by omega) ?_
                         intro A6 c6 w6 hown6 hg6 hat6 hbel6 hcc6
                         have hT6 := (unhide HT5).pushCame (q := q) hown6 hg6 hat6 (unhide HOK5); have HT6 := hide hT6
                         have hq6 := (unhide HT5).tt.blk.grown hg6 (fun e => (unhide HT5).tt.apart.2.2.1 e.symm)
                         have ft6 := twoAt hq6; have ff6 := hq6.frozen 4; clear hown6 hg6 hat6 hbel6 hcc6 hT6 hq6)
            go_meet
            case rel => exact ⟨sa, sb', _, unhide HT6, ((unhide HIc).inB (cA := A6) (cc := c6) (unhide HX5) (unhide HIN5).1 (unhide HIN5).2).2.1, by show row.length ≤ _; omega⟩
          · rw [xf] at fw
            have HX5 : Hid (x.1 = ep ∧ x.2.1 = 0 ∧ 0 ≤ x.2.2.1 ∧ x.2.2.1 ≤ t.came.length) := hide ⟨x1, xn, xa0, xa1⟩
            have HXF := hide xf
            have hkk := (unhide HIc).sl
            have hcc0 := (unhide HIc).cl
            have hsq : x.2.1 ≤ 9223372036854775807 := by omega
            have hac : x.2.2.1 ≤ 9223372036854775807 := by
              have h1 : t.came.length ≤ t.sent.length := hcc0
              have h2 : t.sent.length ≤ K := hkk
              omega
            clear x1 xa0 xa1 xn xb xf hkk hcc0
            go_upto_region 28 with (go_at_call 14; go_must ((refine (in_end pa sa K 0 x.1 x.2.1 x.2.2.1 x.2.2.2.1.2.1 x.2.2.2.1.1 x.2.2.2.1.2.2 _ (unhide HTc).ea (unhide HIc).ia (by omega) (fun u hu => (unhide HOK).1.onlyP hu (fun k hk => ⟨_, _, hk ▸ (unhide HTc).ea.blk, by decide⟩)) (unhide HOK).2.2 hac hsq).mono ?_; rintro _ w5 ⟨sa', q, Ao, co, er, rfl, hrow5, hok5, hst5, hi5, _, hin5⟩; have HT5 := hide ((unhide HTc).stepA hst5); have HRow5 := hide hrow5; have HOK5 := hide hok5; have HIN5 := hide (And.intro hin5 hi5); have fw5 := wayAt ((unhide HWc).only hst5.only (fun h => by have := unhide HOF _ (.inl h); omega)); have hsz5 := hst5.only.size; clear hrow5 hok5 hst5 hi5 hin5)))
            have fw5b : w5.cell? ⟨w1.heap.size, 5, none⟩ = some (.bool false) := by rw [fw5.2.2.2.2.2, unhide HXF]
            have ft5 := twoAt (unhide HT5).tt.blk
            have ff5 := (unhide HT5).tt.blk.frozen 4
            clear fw5 fw fob ftc
            obtain ⟨hq0, _, hi5, _⟩ := (unhide HIc).inA (unhide HX5) (unhide HIN5).1 (unhide HIN5).2
            have HI5 := hide hi5
            clear hi5
            have hqn : (q.length : Int) ≤ 17 * ((K : Int) + 1) := by rw [hq0]; simp; omega
            have fq0 : decide ((0 : Int) < (q.length : Int)) = false := by rw [hq0]; rfl
            have fq1 : decide (0 < q.length) = false := by rw [hq0]; rfl
            have fq2 : ¬ 0 < q.length := by rw [hq0]; simp
            have HQ0 := hide hq0
            clear hq0
            have hq1 : q.length ≤ 100000 := by omega
            have hcl := (unhide HIc).cl
            have hsl2 := (unhide HIc).sl
            have hcl2 : t.came.length ≤ 3000 := by have h1 : t.came.length ≤ t.sent.length := hcl; have h2 : t.sent.length ≤ K := hsl2; omega
            clear hcl hsl2
            go_wp2_with (refine wpList_append_any _ rfl (.tmp 158) (.tmp 159) _ rfl w0.heap.size 22 i0 _ 1 24 Try.underlying32 hi0 hz0 hz1 hz2 rfl (by omega) _ t.came.length _ (by rfl) (unhide HT5).tt.came _ Ao q.length co _ (by rfl) (RdV.of_own (unhide HRow5)) (by simp [rowOf]) (rowOf_one _) (by simp only [maxLen]; omega) (by omega) (by omega) ?_
                         intro A6 c6 w6 hown6 hg6 hat6 hbel6 hcc6
                         have hT6 := (unhide HT5).pushCame (q := q) hown6 hg6 hat6 (unhide HOK5); have HT6 := hide hT6
                         have hq6 := (unhide HT5).tt.blk.grown hg6 (fun e => (unhide HT5).tt.apart.2.2.1 e.symm)
                         have ft6 := twoAt hq6; have ff6 := hq6.frozen 4; clear hown6 hg6 hat6 hbel6 hcc6 hT6 hq6)
            go_meet
            case rel =>
              have e6 : t.came ++ q = t.came := by rw [unhide HQ0, List.append_nil]
              exact ⟨sa', sb, _, unhide HT6, (by rw [e6]; exact ⟨(unhide HI5).ia, (unhide HI5).ib, (unhide HI5).epa, (unhide HI5).epb, (unhide HI5).ra, (unhide HI5).gota, (unhide HI5).ma, (unhide HI5).gotb, (unhide HI5).sb0, (unhide HI5).rb, (unhide HI5).cm, (unhide HI5).cl, (unhide HI5).kb, (unhide HI5).rows, (unhide HI5).sl, (unhide HI5).small⟩), by show row.length ≤ _; omega⟩
  case rest =>
    obtain ⟨sa', sb', t', ht, hi, hrl'⟩ := hcut
    have HTc := hide ht; have HIc := hide hi
    have ftc := (twoAt ht.tt.blk).2.2.2
    have hcl : t'.came.length ≤ t'.sent.length := hi.cl
    have hsl := hi.sl
    have htc : t'.sent.length ≤ t'.tc := by
      obtain ⟨A', c', hv, hc', _⟩ := own_form ht.tt.sent
      injection hv with _ _ e
      omega
    have g1 : decide ((t'.came.length : Int) ≤ (t'.sent.length : Int)) = true := decide_eq_true (by omega)
    have g1' : decide (t'.came.length ≤ t'.sent.length) = true := decide_eq_true hcl
    have g2 : (0 : Int) ≤ (t'.came.length : Int) := by omega
    have g4 : t'.came.length ≤ t'.tc := by omega
    have g3 : (t'.came.length : Int) ≤ (t'.tc : Int) := by omega
    have htk : (t'.sent.take t'.came.length).length = t'.came.length := by rw [List.length_take]; omega
    have HSM : Hid (∀ n, Calls Try.prog 18 #[.slice t'.cA t'.came.length t'.cc, .slice t'.tA t'.came.length t'.tc] (wc.drewN n) fun e w' => e = .returned (.bool true) ∧ ∃ m, w' = (wc.drewN n).drewN m) := hide (fun n => by
      have ht := (unhide HTc).drewN n
      have h2 := (RdV.of_own ht.tt.sent).take_ t'.came.length
      have h3 : RdV (wc.drewN n) (wc.drewN n).heap.size t'.tA (rowOf (t'.sent.take t'.came.length)) := by
        rw [rowOf, List.map_take]
        exact h2
      exact sameRows_any t'.came (t'.sent.take t'.came.length) t'.cA t'.tA t'.cc t'.tc _ _ (wc.drewN n).heap.size (wc.drewN n) (RdV.of_own ht.tt.came) h3 (by rw [(unhide HIc).cm]) (fun x hx => (ht.tt.lieC x hx).1.rd) (fun x hx => (ht.src x (List.mem_of_mem_take hx)).more ht.size) (by omega))
    clear ht hi fo1 ft1 htk htc hsl
    go_wp2_with fail
    go_quiet (exact quiet_first (unhide HSM _))
    go_wp2_with fail
    go_ret
    exact ⟨rfl, _, _, _, (unhide HTc).drewN _, unhide HIc, hrl'⟩

end Go.Proofs.Ytmmkjphkfhgcpaa
