/- What the first end has out is on its way. -/
import Derived.Test.YtmmkjphkfhgcpaaLinkTwoDoBase
namespace Go.Proofs.Ytmmkjphkfhgcpaa
set_option linter.unusedVariables false
open Go.RowKit


set_option maxHeartbeats 16000000 in
set_option maxRecDepth 20000 in
theorem do_out (w0 w : World) (pt pa pb : Nat) (sa sb : LS) (t : TR) (ep : Int) (K : Nat) (i : Int) (Ab : Option Addr) (c : Nat) (b : List UInt8) (h : TwoSt w0 w pt pa pb sa sb t) (hi : TInv ep sa sb t K) (hK : K ≤ 3000) (hrl : t.row.length ≤ 100000) (hb : b.length ≤ 100) (hrd : RdB w w0.heap.size Ab b) :
    Calls Try.prog 16 #[.pointer (some ⟨pt, 0, none⟩), .agg #[.int .i64 1, .int .i64 i, .slice Ab b.length c]] w (DoneT w0 pt pa pb ep (K + 1) (t.row.length + 16)) := by
  have hb0 : Below w.heap.size w (w.alloc (.cells (moveCells 1 i Ab b.length c) 43)) := (Below.refl _ _).alloc (Nat.le_refl _) _
  have HT1 := hide (h.new hb0)
  have HOB : Hid (Blk (w.alloc (.cells (moveCells 1 i Ab b.length c) 43)) w.heap.size 43 (moveCells 1 i Ab b.length c)) := hide (Blk.new w _ _)
  have HRD := hide (hrd.below (hb0.mono h.size))
  have HI := hide hi
  have HOF : Hid (∀ k, Foot pa sa k ∨ Foot pb sb k ∨ TFoot pt t k → k < w.heap.size) := hide (fun k hk => by
    rcases hk with hk | hk | hk
    · exact h.ea.foot k hk
    · exact h.eb.foot k hk
    · exact (h.tt.mem hk).2)
  have hszw := h.size
  clear h hi hb0 hrd
  go_enter Try.func16, Try.ntmps16
  obtain ⟨w1, hw1⟩ : ∃ u, w.alloc (.cells (moveCells 1 i Ab b.length c) 43) = u := ⟨_, rfl⟩
  rw [hw1] at HT1 HOB HRD
  go_upto_region 1 with fail
  have hw1' : w.alloc (.cells #[.int .i64 1, .int .i64 i, .slice Ab b.length c] 43) = w1 := hw1
  rw [hw1']
  clear hw1 hw1'
  have fo1 := moveAt (unhide HOB)
  have ft1 := twoAt (unhide HT1).tt.blk
  go_upto_block 0 with fail
  go_cut [] (fun u => ∃ sa sb t', TwoSt w0 u pt pa pb sa sb t' ∧ TInv ep sa sb t' (K + 1) ∧ t'.row.length ≤ t.row.length + 16)
  case first =>
    obtain ⟨i0, hi0, hz0, hz1, hz2⟩ := info_parts slinfo
    have hrl1 := (unhide HI).rlen
    have hsl1 := (unhide HI).sl

    obtain ⟨j0, hj0, hy0, hy1, hy2⟩ := info_parts wayinfo
    go_upto_region 7 with (go_at_call 12; go_must ((refine (out_end pa sa _ (unhide HT1).ea (by omega) (by omega) (by omega)).mono ?_; rintro _ w2 ⟨k, Ao, co, q, rfl, hk, hql, hqm, hrow, hlq, hbel, hst, _, _⟩; have HT2 := hide ((unhide HT1).new hbel); have HQM := hide hqm; have HQL := hide hql; have HROW := hide hrow; have HLQ := hide hlq; have hk16 : k ≤ 16 := (by omega); clear hk hql hqm hrow hlq hbel hst)))
    have HT2 := unhide HT2
    have hk0 : t.row.length + k ≤ t.row.length + 16 := by omega
    have HT2 := hide HT2
    go_loopw [43] (fun ix wr => ∃ (j : Nat) (t' : TR), j ≤ k ∧ ix = .int .i64 j ∧ TwoSt w0 wr pt pa pb sa sb t' ∧ TInv ep sa sb t' K ∧ t'.row.length ≤ t.row.length + j ∧ wr.ownsRow w1.heap.size 31 5 (.slice Ao k co) k (outCells sa.ep sa.sent sa.got 0 q) ∧ Lie wr q) (fun ix _ => k - (intOf ix).toNat)
    case atStart => exact ⟨0, t, by omega, rfl, unhide HT2, unhide HI, by omega, unhide HROW, unhide HLQ⟩
    case round =>
      obtain ⟨j, t', hj, rfl, ht, hi, hl, hr, hlq⟩ := hrel
      have HT := hide ht; have HIR := hide hi; have HR := hide hr; have HLR := hide hlq
      clear ht hi hr hlq HT2 HROW HLQ
      by_cases hlt : j < k
      · have hjq : j < q.length := by have := unhide HQL; omega
        obtain ⟨x, hx⟩ : ∃ x, q[j]? = some x := ⟨q[j], List.getElem?_eq_getElem hjq⟩
        have HX := hide hx
        obtain ⟨g, cap, hv, hgb, hgl⟩ := (unhide HR).form (by omega)
        obtain rfl : Ao = some ⟨g, 0, none⟩ := by injection hv
        obtain ⟨a0, a1, a2, a3, a4⟩ := outCells_at sa.ep sa.sent sa.got q 0 j x hx
        have cx0 := ((unhide HR).cellAt (j * 5) (by omega)).trans a0
        have cx1 := ((unhide HR).cellAt (j * 5 + 1) (by omega)).trans a1
        have cx2 : wr.cell? ⟨g, j * 5 + 2, none⟩ = some (.int .i64 (sa.sent + 1 + (j : Int))) := ((unhide HR).cellAt (j * 5 + 2) (by omega)).trans (by rw [a2, Nat.zero_add])
        have cx3 := ((unhide HR).cellAt (j * 5 + 3) (by omega)).trans a3
        have cx4 := ((unhide HR).cellAt (j * 5 + 4) (by omega)).trans a4
        have HM0 := hide ((Mem.start wr).new (t := 31) (cs := #[.int .i64 0, .int .i64 0, .int .i64 0, .int .i64 0, .slice none 0 0]) wr.heap.size rfl)
        clear a0 a1 a2 a3 a4 hx hv
        go_upto_region 9 with (refine wpList_store_blk rfl 31 (.tmp 6) (.tmp 46) rfl (wr.heap.size) _ (by rfl) (by rfl) 31 _ (unhide HM0).blk0 (by kernel_rfl) (by rfl) (by simp [Value.oneCell']) ?_; intro w3 hbS hgS; have HM3 := hide ((unhide HM0).grown0 hbS hgS); have HGw3 := hide hgS; clear hbS hgS)
        have HT3 := hide ((unhide HT).new (unhide HM3).below)
        have fx3 := Lnk.cellsAt (unhide HM3).blk0
        have ft3 := twoAt (unhide HT3).tt.blk
        have ff3 := (unhide HT3).tt.blk.frozen 2
        have hpl3 := (unhide HT3).tt.blk.lt
        have hsz3 := (unhide HT3).size
        have HR3 := hide (own_below (unhide HR) (unhide HM3).below (fun k hk => ((unhide HR).lt k hk).2))
        have HLR3 := hide (fun x hx => (unhide HLR x hx).1.stays (Stays.of_below (unhide HM3).below (Nat.le_refl _)))
        have hrl3 : t'.row.length ≤ 100016 := by omega
        have HSn : Hid (∀ n, ((w3.drewN n).alloc (.cells #[.int .i64 0, .int .i64 sa.ep, .int .i64 (sa.sent + 1 + (j : Int)), .int .i64 sa.got, .slice x.2.1 x.1.length x.2.2, .bool true] 67)).ownsRow w0.heap.size 67 6 (.slice t'.rA t'.row.length t'.rc) t'.row.length (wayCells t'.row)) := hide (fun n => ((unhide HT3).drewN n).tt.row.alloc _)
        clear HM0 HGw3 cx0 cx1 cx2 cx3 cx4 ft1 fo1
        go_region_law (refine step_append_any _ rfl (.tmp 51) (.tmp 54) _ rfl w0.heap.size 67 j0 _ 6 64 Try.underlying39 hj0 hy0 hy1 hy2 rfl (by omega) _ t'.row.length _ (by rfl) (unhide HSn _) _ _ 1 1 _ (by rfl) (RdV.of_own (base := 0) (size := 6) (World.ownsRow_lit _ #[.int .i64 0, .int .i64 sa.ep, .int .i64 (sa.sent + 1 + (j : Int)), .int .i64 sa.got, .slice x.2.1 x.1.length x.2.2, .bool true] 1 (Nat.zero_le _) (by simp [maxLen]) rfl)) rfl (by intro u hu; simp at hu; rcases hu with rfl | rfl | rfl | rfl | rfl | rfl <;> rfl) (by simp only [maxLen]; omega) (by omega) (by simp; omega) ?_
                       intro A4 c4 w4 hown4 hg4 hat4 hbel4 hcc4
                       have hT4 := ((unhide HT3).drewN _).pushRow (news := [(sa.ep, sa.sent + 1 + (j : Int), sa.got, x, true)]) rfl hown4 hg4 hat4 (fun y hy => by obtain rfl := List.mem_singleton.1 hy; exact ⟨unhide HLR3 x (List.mem_of_getElem? (unhide HX)), ((unhide HLR) x (List.mem_of_getElem? (unhide HX))).2⟩); have HT4 := hide hT4
                       have hkp := ((unhide HT3).drewN _).frames (i := 2) (v' := .slice A4 (t'.row.length + 1) c4) hg4 (own_drewN (unhide HR3) _); have HKP := hide hkp
                       have hq4 := Blk.grown (w := ((w3.drewN 0).alloc (.cells #[.int .i64 0, .int .i64 sa.ep, .int .i64 (sa.sent + 1 + (j : Int)), .int .i64 sa.got, .slice x.2.1 x.1.length x.2.2, .bool true] 67))) (((unhide HT3).tt.blk.drewN 0).alloc _) ⟨hg4.os, hg4.tape, hg4.output, hg4.size, hg4.block⟩ (fun e => (unhide HT3).tt.apart.1 e.symm)
                       have ft4 := twoAt hq4; have ff4 := hq4.frozen 2; clear hown4 hg4 hat4 hbel4 hT4 hq4 hkp)
        all_goals go_wp2_with fail
        all_goals
          have hi := unhide HIR
          have hj16 : j < 16 := by omega
          refine ⟨⟨j + 1, _, by omega, by go_num, unhide HT4, hi.setRows _ A4 c4 (fun y hy => ?_), ?_, (unhide HKP).1, fun y hy => ?_⟩, by simp [intOf]; omega⟩
          · rcases List.mem_append.1 hy with hy | hy
            · exact .inl hy
            · obtain rfl := List.mem_singleton.1 hy
              have hz : (sa.r.map (·.1))[j]? = some x.1 := by
                have h1 := congrArg (fun l => l[j]?) (unhide HQM)
                simp only [List.getElem?_map, unhide HX, Option.map_some] at h1
                rw [List.getElem?_take_of_lt hlt] at h1
                exact h1.symm
              obtain ⟨o1, o2, o3⟩ := hi.outOne (i := j) (z := x) (z0 := []) hj16 hz
              exact .inr ⟨o1, .inl ⟨rfl, o2, o3⟩⟩
          · show (t'.row ++ [_]).length ≤ _
            rw [List.length_append, List.length_singleton]
            omega
          · exact ⟨(unhide HLR3 y hy).by (unhide HKP).2, (unhide HLR y hy).2⟩
      · obtain rfl : j = k := by omega
        go_wp2_with fail
        go_meet
        case rel => exact ⟨_, _, t', unhide HT, (unhide HIR).mono (Nat.le_succ _), by omega⟩

  case rest =>
    obtain ⟨sa', sb', t', ht, hi, hrl'⟩ := hcut
    have HTc := hide ht; have HIc := hide hi
    have ftc := (twoAt ht.tt.blk).2.2.2
    have hcl : t'.came.length ≤ t'.sent.length := hi.cl
    have hsl := hi.sl
    have htc : t'.sent.length ≤ t'.tc := by
      obtain ⟨A', c', hv, hc', _⟩ := own_form ht.tt.sent
      injection hv with _ _ e
      omega
    have g1 : decide ((t'.came.length : Int) ≤ (t'.sent.length : Int)) = true := decide_eq_true (by omega)
    have g1' : decide (t'.came.length ≤ t'.sent.length) = true := decide_eq_true hcl
    have g2 : (0 : Int) ≤ (t'.came.length : Int) := by omega
    have g4 : t'.came.length ≤ t'.tc := by omega
    have g3 : (t'.came.length : Int) ≤ (t'.tc : Int) := by omega
    have htk : (t'.sent.take t'.came.length).length = t'.came.length := by rw [List.length_take]; omega
    have HSM : Hid (∀ n, Calls Try.prog 18 #[.slice t'.cA t'.came.length t'.cc, .slice t'.tA t'.came.length t'.tc] (wc.drewN n) fun e w' => e = .returned (.bool true) ∧ ∃ m, w' = (wc.drewN n).drewN m) := hide (fun n => by
      have ht := (unhide HTc).drewN n
      have h2 := (RdV.of_own ht.tt.sent).take_ t'.came.length
      have h3 : RdV (wc.drewN n) (wc.drewN n).heap.size t'.tA (rowOf (t'.sent.take t'.came.length)) := by
        rw [rowOf, List.map_take]
        exact h2
      exact sameRows_any t'.came (t'.sent.take t'.came.length) t'.cA t'.tA t'.cc t'.tc _ _ (wc.drewN n).heap.size (wc.drewN n) (RdV.of_own ht.tt.came) h3 (by rw [(unhide HIc).cm]) (fun x hx => (ht.tt.lieC x hx).1.rd) (fun x hx => (ht.src x (List.mem_of_mem_take hx)).more ht.size) (by omega))
    clear ht hi fo1 ft1 htk htc hsl
    go_wp2_with fail
    go_quiet (exact quiet_first (unhide HSM _))
    go_wp2_with fail
    go_ret
    exact ⟨rfl, _, _, _, (unhide HTc).drewN _, unhide HIc, hrl'⟩

end Go.Proofs.Ytmmkjphkfhgcpaa
