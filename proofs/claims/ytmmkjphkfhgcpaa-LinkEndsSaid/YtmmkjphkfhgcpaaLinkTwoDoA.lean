/- A body is sent; what the second end notes is on its way; no move. -/
import Derived.Test.YtmmkjphkfhgcpaaLinkTwoDoBase
namespace Go.Proofs.Ytmmkjphkfhgcpaa
set_option linter.unusedVariables false
open Go.RowKit


set_option maxHeartbeats 16000000 in
set_option maxRecDepth 20000 in
theorem do_send (w0 w : World) (pt pa pb : Nat) (sa sb : LS) (t : TR) (ep : Int) (K : Nat) (i : Int) (Ab : Option Addr) (c : Nat) (b : List UInt8) (h : TwoSt w0 w pt pa pb sa sb t) (hi : TInv ep sa sb t K) (hK : K ≤ 3000) (hrl : t.row.length ≤ 100000) (hb : b.length ≤ 100) (hrd : RdB w w0.heap.size Ab b) :
    Calls Try.prog 16 #[.pointer (some ⟨pt, 0, none⟩), .agg #[.int .i64 0, .int .i64 i, .slice Ab b.length c]] w (DoneT w0 pt pa pb ep (K + 1) (t.row.length + 16)) := by
  have hb0 : Below w.heap.size w (w.alloc (.cells (moveCells 0 i Ab b.length c) 43)) := (Below.refl _ _).alloc (Nat.le_refl _) _
  have HT1 := hide (h.new hb0)
  have HOB : Hid (Blk (w.alloc (.cells (moveCells 0 i Ab b.length c) 43)) w.heap.size 43 (moveCells 0 i Ab b.length c)) := hide (Blk.new w _ _)
  have HRD := hide (hrd.below (hb0.mono h.size))
  have HI := hide hi
  have HOF : Hid (∀ k, Foot pa sa k ∨ Foot pb sb k ∨ TFoot pt t k → k < w.heap.size) := hide (fun k hk => by
    rcases hk with hk | hk | hk
    · exact h.ea.foot k hk
    · exact h.eb.foot k hk
    · exact (h.tt.mem hk).2)
  have hszw := h.size
  clear h hi hb0 hrd
  go_enter Try.func16, Try.ntmps16
  obtain ⟨w1, hw1⟩ : ∃ u, w.alloc (.cells (moveCells 0 i Ab b.length c) 43) = u := ⟨_, rfl⟩
  rw [hw1] at HT1 HOB HRD
  go_upto_region 1 with fail
  have hw1' : w.alloc (.cells #[.int .i64 0, .int .i64 i, .slice Ab b.length c] 43) = w1 := hw1
  rw [hw1']
  clear hw1 hw1'
  have fo1 := moveAt (unhide HOB)
  have ft1 := twoAt (unhide HT1).tt.blk
  go_upto_block 0 with fail
  go_cut [] (fun u => ∃ sa sb t', TwoSt w0 u pt pa pb sa sb t' ∧ TInv ep sa sb t' (K + 1) ∧ t'.row.length ≤ t.row.length + 16)
  case first =>
    obtain ⟨i0, hi0, hz0, hz1, hz2⟩ := info_parts slinfo
    have hrl1 := (unhide HI).rlen
    have hsl1 := (unhide HI).sl

    have HT1d := hide (unhide HT1).drew
    have hq1 : sa.r.length < 4096 := by omega
    go_upto_region 3 with fail
    go_region_held3 (fun u => u.cell? ⟨pt, 0, none⟩ = some (.pointer (some ⟨pa, 0, none⟩)) ∧ u.cell? ⟨w.heap.size, 2, none⟩ = some (.slice Ab b.length c)) (first | assumption | go_keep)
      (first | (go_at_call 11; go_must ((refine (send_end pa sa b Ab c w0.heap.size _ (unhide HT1d).ea hq1 (by omega) (unhide HRD).drew (unhide HT1d).size).mono ?_; rintro _ w2 ⟨rfl, wv, x, hx, _, hst⟩; have hT2 := (unhide HT1d).stepA hst; have HT2 := hide hT2; have HX := hide hx; have fo2 := moveAt ((unhide HOB).only (w := w1.drew) hst.only (fun h => Nat.lt_irrefl _ (unhide HOF _ (.inl h)))); have ft2 := twoAt hT2.tt.blk; have HRD2 := hide ((unhide HRD).drew.only2 hst.only (unhide HT1d).size (unhide HT1d).ma); clear hst hT2 hx))))
    all_goals go_upto_region 4 with fail
    all_goals
      have HT2n : Hid (∀ n, TwoSt w0 (w2.drewN n) pt pa pb _ sb t) := hide (fun n => (unhide HT2).drewN n)
      have HSn : Hid (∀ n, ((w2.drewN n).alloc (.cells #[.slice Ab b.length c] 22)).ownsRow w0.heap.size 22 1 (.slice t.tA t.sent.length t.tc) t.sent.length (rowOf t.sent)) := hide (fun n => (unhide HT2n n).tt.sent.alloc _)
      have hpl := (unhide HT2).tt.blk.lt
      have ff2 := (unhide HT2).tt.blk.frozen 3
      have hsz2 := (unhide HT2).size
      go_region_law (first
        | (refine step_append_any _ rfl (.tmp 28) (.tmp 31) _ rfl w0.heap.size 22 i0 _ 1 24 Try.underlying32 hi0 hz0 hz1 hz2 rfl (by omega) _ t.sent.length _ (by rfl) (unhide HSn _) _ _ 1 1 _ (by rfl) (RdV.one _ (.slice Ab b.length c) _ _) rfl (by intro u hu; simp at hu; subst hu; rfl) (by simp only [maxLen]; omega) (by omega) (by simp; omega) ?_
           intro A3 c3 w3 hown3 hg3 hat3 hbel3 hcc3
           have hT3 := (unhide HT2n _).pushSent (x := (b, Ab, c)) hown3 hg3 hat3 ((unhide HRD2).drewN _); have HT3 := hide hT3
           have hp3 := ((unhide HT2).tt.blk.drewN 0).alloc (.cells #[.slice Ab b.length c] 22)
           have hq3 := Blk.grown (w := (w2.drewN 0).alloc (.cells #[.slice Ab b.length c] 22)) hp3 ⟨hg3.os, hg3.tape, hg3.output, hg3.size, hg3.block⟩ (fun e => (unhide HT2).tt.apart.2.1 e.symm)
           have ft3 := twoAt hq3; have ff3 := hq3.frozen 3; clear hown3 hg3 hat3 hbel3 hT3 hp3 hq3))
    all_goals go_wp2_with fail
    all_goals
      go_meet
      case rel => exact ⟨_, _, _, unhide HT3, (unhide HI).send hq1 wv x (b, Ab, c) (unhide HX) hb A3 c3, by show t.row.length ≤ _; omega⟩

  case rest =>
    obtain ⟨sa', sb', t', ht, hi, hrl'⟩ := hcut
    have HTc := hide ht; have HIc := hide hi
    have ftc := (twoAt ht.tt.blk).2.2.2
    have hcl : t'.came.length ≤ t'.sent.length := hi.cl
    have hsl := hi.sl
    have htc : t'.sent.length ≤ t'.tc := by
      obtain ⟨A', c', hv, hc', _⟩ := own_form ht.tt.sent
      injection hv with _ _ e
      omega
    have g1 : decide ((t'.came.length : Int) ≤ (t'.sent.length : Int)) = true := decide_eq_true (by omega)
    have g1' : decide (t'.came.length ≤ t'.sent.length) = true := decide_eq_true hcl
    have g2 : (0 : Int) ≤ (t'.came.length : Int) := by omega
    have g4 : t'.came.length ≤ t'.tc := by omega
    have g3 : (t'.came.length : Int) ≤ (t'.tc : Int) := by omega
    have htk : (t'.sent.take t'.came.length).length = t'.came.length := by rw [List.length_take]; omega
    have HSM : Hid (∀ n, Calls Try.prog 18 #[.slice t'.cA t'.came.length t'.cc, .slice t'.tA t'.came.length t'.tc] (wc.drewN n) fun e w' => e = .returned (.bool true) ∧ ∃ m, w' = (wc.drewN n).drewN m) := hide (fun n => by
      have ht := (unhide HTc).drewN n
      have h2 := (RdV.of_own ht.tt.sent).take_ t'.came.length
      have h3 : RdV (wc.drewN n) (wc.drewN n).heap.size t'.tA (rowOf (t'.sent.take t'.came.length)) := by
        rw [rowOf, List.map_take]
        exact h2
      exact sameRows_any t'.came (t'.sent.take t'.came.length) t'.cA t'.tA t'.cc t'.tc _ _ (wc.drewN n).heap.size (wc.drewN n) (RdV.of_own ht.tt.came) h3 (by rw [(unhide HIc).cm]) (fun x hx => (ht.tt.lieC x hx).1.rd) (fun x hx => (ht.src x (List.mem_of_mem_take hx)).more ht.size) (by omega))
    clear ht hi fo1 ft1 htk htc hsl
    go_wp2_with fail
    go_quiet (exact quiet_first (unhide HSM _))
    go_wp2_with fail
    go_ret
    exact ⟨rfl, _, _, _, (unhide HTc).drewN _, unhide HIc, hrl'⟩

set_option maxHeartbeats 16000000 in
set_option maxRecDepth 20000 in
theorem do_note (w0 w : World) (pt pa pb : Nat) (sa sb : LS) (t : TR) (ep : Int) (K : Nat) (i : Int) (Ab : Option Addr) (c : Nat) (b : List UInt8) (h : TwoSt w0 w pt pa pb sa sb t) (hi : TInv ep sa sb t K) (hK : K ≤ 3000) (hrl : t.row.length ≤ 100000) (hb : b.length ≤ 100) (hrd : RdB w w0.heap.size Ab b) :
    Calls Try.prog 16 #[.pointer (some ⟨pt, 0, none⟩), .agg #[.int .i64 2, .int .i64 i, .slice Ab b.length c]] w (DoneT w0 pt pa pb ep (K + 1) (t.row.length + 16)) := by
  have hb0 : Below w.heap.size w (w.alloc (.cells (moveCells 2 i Ab b.length c) 43)) := (Below.refl _ _).alloc (Nat.le_refl _) _
  have HT1 := hide (h.new hb0)
  have HOB : Hid (Blk (w.alloc (.cells (moveCells 2 i Ab b.length c) 43)) w.heap.size 43 (moveCells 2 i Ab b.length c)) := hide (Blk.new w _ _)
  have HRD := hide (hrd.below (hb0.mono h.size))
  have HI := hide hi
  have HOF : Hid (∀ k, Foot pa sa k ∨ Foot pb sb k ∨ TFoot pt t k → k < w.heap.size) := hide (fun k hk => by
    rcases hk with hk | hk | hk
    · exact h.ea.foot k hk
    · exact h.eb.foot k hk
    · exact (h.tt.mem hk).2)
  have hszw := h.size
  clear h hi hb0 hrd
  go_enter Try.func16, Try.ntmps16
  obtain ⟨w1, hw1⟩ : ∃ u, w.alloc (.cells (moveCells 2 i Ab b.length c) 43) = u := ⟨_, rfl⟩
  rw [hw1] at HT1 HOB HRD
  go_upto_region 1 with fail
  have hw1' : w.alloc (.cells #[.int .i64 2, .int .i64 i, .slice Ab b.length c] 43) = w1 := hw1
  rw [hw1']
  clear hw1 hw1'
  have fo1 := moveAt (unhide HOB)
  have ft1 := twoAt (unhide HT1).tt.blk
  go_upto_block 0 with fail
  go_cut [] (fun u => ∃ sa sb t', TwoSt w0 u pt pa pb sa sb t' ∧ TInv ep sa sb t' (K + 1) ∧ t'.row.length ≤ t.row.length + 16)
  case first =>
    obtain ⟨i0, hi0, hz0, hz1, hz2⟩ := info_parts slinfo
    have hrl1 := (unhide HI).rlen
    have hsl1 := (unhide HI).sl

    obtain ⟨j0, hj0, hy0, hy1, hy2⟩ := info_parts wayinfo
    go_upto_region 12 with fail
    have HT1n : Hid (∀ n, TwoSt w0 (w1.drewN n) pt pa pb sa sb t) := hide (fun n => (unhide HT1).drewN n)
    have hpl := (unhide HT1).tt.blk.lt
    have hsz1 := (unhide HT1).size
    have HNO : Hid (Calls Try.prog 17 #[.pointer (some ⟨pb, 0, none⟩), .slice none 0 0] w1.drew fun e w' => ∃ A2 c2, e = .returned (.agg #[.int .i64 0, .int .i64 sb.ep, .int .i64 0, .int .i64 sb.got, .slice A2 0 c2]) ∧ RdT w' A2 [] ∧ 0 ≤ c2 ∧ Below w1.heap.size w1 w' ∧ (∀ ad, A2 = some ad → w1.heap.size ≤ ad.block)) := hide (by
      refine (note_end pb sb [] none 0 0 w1.drew (unhide HT1).drew.eb RdB.nil (Nat.zero_le _) (by simp)).mono ?_
      rintro _ w' ⟨A2, c2, rfl, h1, h2, h3, h4⟩
      exact ⟨A2, c2, rfl, h1, h2, ⟨h3.os, h3.tape, h3.output, h3.size, h3.block⟩, h4⟩)
    go_region_law (first
      | (go_simp; go_at_call 17; refine (unhide HNO).mono ?_; rintro _ w2 ⟨A2, c2, rfl, hrt2, _, hbel2, _⟩
         have hT2 := (unhide HT1).new hbel2; have HT2 := hide hT2; have HRT2 := hide hrt2; have ft2 := twoAt hT2.tt.blk; have ff2 := hT2.tt.blk.frozen 2; have hsz2 := hT2.size; have hpl2 := hT2.tt.blk.lt
         have HS2 : Hid ((w2.alloc (.cells #[.int .i64 0, .int .i64 sb.ep, .int .i64 0, .int .i64 sb.got, .slice A2 0 c2, .bool false] 67)).ownsRow w0.heap.size 67 6 (.slice t.rA t.row.length t.rc) t.row.length (wayCells t.row)) := hide (hT2.tt.row.alloc _)
         clear hrt2 hbel2 hT2)
      | (refine step_append_any _ rfl (.tmp 65) (.tmp 72) _ rfl w0.heap.size 67 j0 _ 6 64 Try.underlying39 hj0 hy0 hy1 hy2 rfl (by omega) _ t.row.length _ (by rfl) (unhide HS2) _ _ 1 1 _ (by rfl) (RdV.of_own (base := 0) (size := 6) (World.ownsRow_lit w2 #[.int .i64 0, .int .i64 sb.ep, .int .i64 0, .int .i64 sb.got, .slice A2 0 c2, .bool false] 1 (Nat.zero_le _) (by simp [maxLen]) rfl)) rfl (by intro u hu; simp at hu; rcases hu with rfl | rfl | rfl | rfl | rfl | rfl <;> rfl) (by simp only [maxLen]; omega) (by omega) (by simp; omega) ?_
         intro A3 c3 w3 hown3 hg3 hat3 hbel3 hcc3
         have hT3 := (unhide HT2).pushRow (news := [(sb.ep, 0, sb.got, ([], A2, c2), false)]) rfl hown3 hg3 hat3 (fun x hx => by obtain rfl := List.mem_singleton.1 hx; exact ⟨unhide HRT2, Nat.zero_le _, by simp⟩); have HT3 := hide hT3
         have hq3 := Blk.grown ((unhide HT2).tt.blk.alloc (.cells #[.int .i64 0, .int .i64 sb.ep, .int .i64 0, .int .i64 sb.got, .slice A2 0 c2, .bool false] 67)) hg3 (fun e => (unhide HT2).tt.apart.1 e.symm)
         have ft3 := twoAt hq3; have ff3 := hq3.frozen 2; clear hown3 hg3 hat3 hbel3 hT3 hq3))
    all_goals go_wp2_with fail
    all_goals
      go_meet
      case rel =>
        have hi := unhide HI
        exact ⟨_, _, _, unhide HT3, (hi.setRows _ A3 c3 (fun x hx => by
          rcases List.mem_append.1 hx with hx | hx
          · exact .inl hx
          · obtain rfl := List.mem_singleton.1 hx
            exact .inr ⟨hi.epb, .inr ⟨rfl, rfl, by show 0 ≤ sb.got; rw [hi.gotb]; omega, by show sb.got ≤ _; rw [hi.gotb]; omega, rfl⟩⟩)).mono (Nat.le_succ _), by show (t.row ++ [_]).length ≤ _; rw [List.length_append, List.length_singleton]; omega⟩

  case rest =>
    obtain ⟨sa', sb', t', ht, hi, hrl'⟩ := hcut
    have HTc := hide ht; have HIc := hide hi
    have ftc := (twoAt ht.tt.blk).2.2.2
    have hcl : t'.came.length ≤ t'.sent.length := hi.cl
    have hsl := hi.sl
    have htc : t'.sent.length ≤ t'.tc := by
      obtain ⟨A', c', hv, hc', _⟩ := own_form ht.tt.sent
      injection hv with _ _ e
      omega
    have g1 : decide ((t'.came.length : Int) ≤ (t'.sent.length : Int)) = true := decide_eq_true (by omega)
    have g1' : decide (t'.came.length ≤ t'.sent.length) = true := decide_eq_true hcl
    have g2 : (0 : Int) ≤ (t'.came.length : Int) := by omega
    have g4 : t'.came.length ≤ t'.tc := by omega
    have g3 : (t'.came.length : Int) ≤ (t'.tc : Int) := by omega
    have htk : (t'.sent.take t'.came.length).length = t'.came.length := by rw [List.length_take]; omega
    have HSM : Hid (∀ n, Calls Try.prog 18 #[.slice t'.cA t'.came.length t'.cc, .slice t'.tA t'.came.length t'.tc] (wc.drewN n) fun e w' => e = .returned (.bool true) ∧ ∃ m, w' = (wc.drewN n).drewN m) := hide (fun n => by
      have ht := (unhide HTc).drewN n
      have h2 := (RdV.of_own ht.tt.sent).take_ t'.came.length
      have h3 : RdV (wc.drewN n) (wc.drewN n).heap.size t'.tA (rowOf (t'.sent.take t'.came.length)) := by
        rw [rowOf, List.map_take]
        exact h2
      exact sameRows_any t'.came (t'.sent.take t'.came.length) t'.cA t'.tA t'.cc t'.tc _ _ (wc.drewN n).heap.size (wc.drewN n) (RdV.of_own ht.tt.came) h3 (by rw [(unhide HIc).cm]) (fun x hx => (ht.tt.lieC x hx).1.rd) (fun x hx => (ht.src x (List.mem_of_mem_take hx)).more ht.size) (by omega))
    clear ht hi fo1 ft1 htk htc hsl
    go_wp2_with fail
    go_quiet (exact quiet_first (unhide HSM _))
    go_wp2_with fail
    go_ret
    exact ⟨rfl, _, _, _, (unhide HTc).drewN _, unhide HIc, hrl'⟩

set_option maxHeartbeats 16000000 in
set_option maxRecDepth 20000 in
theorem do_else (w0 w : World) (pt pa pb : Nat) (sa sb : LS) (t : TR) (ep : Int) (K : Nat) (kd : Int) (i : Int) (Ab : Option Addr) (c : Nat) (b : List UInt8) (k0 : kd ≠ 0) (k1 : kd ≠ 1) (k2 : kd ≠ 2) (k3 : kd ≠ 3) (k4 : kd ≠ 4) (k5 : kd ≠ 5) (h : TwoSt w0 w pt pa pb sa sb t) (hi : TInv ep sa sb t K) (hK : K ≤ 3000) (hrl : t.row.length ≤ 100000) (hb : b.length ≤ 100) (hrd : RdB w w0.heap.size Ab b) :
    Calls Try.prog 16 #[.pointer (some ⟨pt, 0, none⟩), .agg #[.int .i64 kd, .int .i64 i, .slice Ab b.length c]] w (DoneT w0 pt pa pb ep (K + 1) (t.row.length + 16)) := by
  have hb0 : Below w.heap.size w (w.alloc (.cells (moveCells kd i Ab b.length c) 43)) := (Below.refl _ _).alloc (Nat.le_refl _) _
  have HT1 := hide (h.new hb0)
  have HOB : Hid (Blk (w.alloc (.cells (moveCells kd i Ab b.length c) 43)) w.heap.size 43 (moveCells kd i Ab b.length c)) := hide (Blk.new w _ _)
  have HRD := hide (hrd.below (hb0.mono h.size))
  have HI := hide hi
  have HOF : Hid (∀ k, Foot pa sa k ∨ Foot pb sb k ∨ TFoot pt t k → k < w.heap.size) := hide (fun k hk => by
    rcases hk with hk | hk | hk
    · exact h.ea.foot k hk
    · exact h.eb.foot k hk
    · exact (h.tt.mem hk).2)
  have hszw := h.size
  clear h hi hb0 hrd
  go_enter Try.func16, Try.ntmps16
  obtain ⟨w1, hw1⟩ : ∃ u, w.alloc (.cells (moveCells kd i Ab b.length c) 43) = u := ⟨_, rfl⟩
  rw [hw1] at HT1 HOB HRD
  go_upto_region 1 with fail
  have hw1' : w.alloc (.cells #[.int .i64 kd, .int .i64 i, .slice Ab b.length c] 43) = w1 := hw1
  rw [hw1']
  clear hw1 hw1'
  have fo1 := moveAt (unhide HOB)
  have ft1 := twoAt (unhide HT1).tt.blk
  go_upto_block 0 with fail
  go_cut [] (fun u => ∃ sa sb t', TwoSt w0 u pt pa pb sa sb t' ∧ TInv ep sa sb t' (K + 1) ∧ t'.row.length ≤ t.row.length + 16)
  case first =>
    obtain ⟨i0, hi0, hz0, hz1, hz2⟩ := info_parts slinfo
    have hrl1 := (unhide HI).rlen
    have hsl1 := (unhide HI).sl

    have f0 : (kd == 0) = false := beq_eq_false_iff_ne.2 k0
    have f1 : (kd == 1) = false := beq_eq_false_iff_ne.2 k1
    have f2 : (kd == 2) = false := beq_eq_false_iff_ne.2 k2
    have f3 : (kd == 3) = false := beq_eq_false_iff_ne.2 k3
    have f4 : (kd == 4) = false := beq_eq_false_iff_ne.2 k4
    have f5 : (kd == 5) = false := beq_eq_false_iff_ne.2 k5
    clear k0 k1 k2 k3 k4 k5
    go_wp2_with fail
    go_meet
    case rel => exact ⟨_, _, _, unhide HT1, (unhide HI).mono (Nat.le_succ _), by omega⟩
  case rest =>
    obtain ⟨sa', sb', t', ht, hi, hrl'⟩ := hcut
    have HTc := hide ht; have HIc := hide hi
    have ftc := (twoAt ht.tt.blk).2.2.2
    have hcl : t'.came.length ≤ t'.sent.length := hi.cl
    have hsl := hi.sl
    have htc : t'.sent.length ≤ t'.tc := by
      obtain ⟨A', c', hv, hc', _⟩ := own_form ht.tt.sent
      injection hv with _ _ e
      omega
    have g1 : decide ((t'.came.length : Int) ≤ (t'.sent.length : Int)) = true := decide_eq_true (by omega)
    have g1' : decide (t'.came.length ≤ t'.sent.length) = true := decide_eq_true hcl
    have g2 : (0 : Int) ≤ (t'.came.length : Int) := by omega
    have g4 : t'.came.length ≤ t'.tc := by omega
    have g3 : (t'.came.length : Int) ≤ (t'.tc : Int) := by omega
    have htk : (t'.sent.take t'.came.length).length = t'.came.length := by rw [List.length_take]; omega
    have HSM : Hid (∀ n, Calls Try.prog 18 #[.slice t'.cA t'.came.length t'.cc, .slice t'.tA t'.came.length t'.tc] (wc.drewN n) fun e w' => e = .returned (.bool true) ∧ ∃ m, w' = (wc.drewN n).drewN m) := hide (fun n => by
      have ht := (unhide HTc).drewN n
      have h2 := (RdV.of_own ht.tt.sent).take_ t'.came.length
      have h3 : RdV (wc.drewN n) (wc.drewN n).heap.size t'.tA (rowOf (t'.sent.take t'.came.length)) := by
        rw [rowOf, List.map_take]
        exact h2
      exact sameRows_any t'.came (t'.sent.take t'.came.length) t'.cA t'.tA t'.cc t'.tc _ _ (wc.drewN n).heap.size (wc.drewN n) (RdV.of_own ht.tt.came) h3 (by rw [(unhide HIc).cm]) (fun x hx => (ht.tt.lieC x hx).1.rd) (fun x hx => (ht.src x (List.mem_of_mem_take hx)).more ht.size) (by omega))
    clear ht hi fo1 ft1 htk htc hsl
    go_wp2_with fail
    go_quiet (exact quiet_first (unhide HSM _))
    go_wp2_with fail
    go_ret
    exact ⟨rfl, _, _, _, (unhide HTc).drewN _, unhide HIc, hrl'⟩

end Go.Proofs.Ytmmkjphkfhgcpaa
