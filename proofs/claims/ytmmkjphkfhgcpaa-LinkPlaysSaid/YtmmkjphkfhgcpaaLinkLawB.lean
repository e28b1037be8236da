/- The walk of LinkAlien. -/
import Derived.Test.YtmmkjphkfhgcpaaLinkSmall
namespace Go.Proofs.Ytmmkjphkfhgcpaa
set_option linter.unusedVariables false
open Go.RowKit

/-- rows of bytes that came in -/
def InRows (w : World) (B : Nat) (A : Option Addr) (r : Bodies) : Prop :=
  ∀ i x, r[i]? = some x → ∃ ad, A = some ad ∧ ad.block < B ∧ w.cell? (ad.add i) = some (.slice x.2.1 x.1.length x.2.2) ∧ RdB w B x.2.1 x.1 ∧ x.1.length ≤ x.2.2 ∧ x.2.2 ≤ 140737488351232
theorem InRows.below {w w' : World} {B : Nat} {A : Option Addr} {r : Bodies} (h : InRows w B A r) (hb : Below B w w') : InRows w' B A r := fun i x hx => by
  obtain ⟨ad, e, hl, hc, hr, r⟩ := h i x hx
  exact ⟨ad, e, hl, (hb.cell (p := ad.add i) (by rw [block_of_add]; exact hl)).trans hc, hr.below hb, r⟩
/-- a frame: version, epoch, number, acknowledgement, its body's bytes, where, room -/
abbrev Fr := Int × Int × Int × Int × List UInt8 × Option Addr × Nat
def InFrames (w : World) (B : Nat) (A : Option Addr) (r : List Fr) : Prop :=
  ∀ (i : Nat) (x : Fr), r[i]? = some x → ∃ ad : Addr, A = some ad ∧ ad.block < B ∧ w.cell? (ad.add (i * 5)) = some (.int .i64 x.1) ∧ w.cell? (ad.add (i * 5 + 1)) = some (.int .i64 x.2.1) ∧ w.cell? (ad.add (i * 5 + 2)) = some (.int .i64 x.2.2.1) ∧
    w.cell? (ad.add (i * 5 + 3)) = some (.int .i64 x.2.2.2.1) ∧ w.cell? (ad.add (i * 5 + 4)) = some (.slice x.2.2.2.2.2.1 x.2.2.2.2.1.length x.2.2.2.2.2.2)
theorem InFrames.below {w w' : World} {B : Nat} {A : Option Addr} {r : List Fr} (h : InFrames w B A r) (hb : Below B w w') : InFrames w' B A r := fun i x hx => by
  obtain ⟨ad, e, hl, h0, h1, h2, h3, h4⟩ := h i x hx
  exact ⟨ad, e, hl, (hb.cell (p := ad.add _) (by rw [block_of_add]; exact hl)).trans h0, (hb.cell (p := ad.add _) (by rw [block_of_add]; exact hl)).trans h1, (hb.cell (p := ad.add _) (by rw [block_of_add]; exact hl)).trans h2, (hb.cell (p := ad.add _) (by rw [block_of_add]; exact hl)).trans h3, (hb.cell (p := ad.add _) (by rw [block_of_add]; exact hl)).trans h4⟩

set_option maxHeartbeats 4000000 in
set_option maxRecDepth 20000 in
theorem linkAlien_any (ep : Int) (A : Option Addr) (c : Nat) (bs : Bodies) (L : Option Addr) (d : Nat) (fs : List Fr) (w : World) (hb : InRows w w.heap.size A bs) (hbc : bs.length ≤ c) (hc : c ≤ 9223372036854775807) (hf : InFrames w w.heap.size L fs) (hfd : fs.length ≤ d) (hd : d ≤ 9223372036854775807) :
    Calls Try.prog 6 #[.int .i64 ep, .slice A bs.length c, .slice L fs.length d] w fun e w' => e = .returned (.bool true) ∧ Below w.heap.size w w' := by
  have HN := hide (new_c ep w)
  have HA := hide awake_any
  have HBS := hide hb
  have HFS := hide hf
  clear hb hf
  go_enter Try.func6, Try.ntmps6
  go_wp2_with (go_at_call 10; refine (unhide HN).mono ?_; rintro _ w1 ⟨rfl, hb1, hm1, hbel1, hst1⟩; have HP1 := hide hb1; have HB1 := hide hbel1; clear hb1 hm1 hbel1 hst1)
  obtain ⟨p, hp⟩ : ∃ p, w.heap.size + 1 = p := ⟨_, rfl⟩
  rw [hp] at HP1 ⊢
  have hwp : w.heap.size ≤ p := by omega
  obtain ⟨m, hm⟩ : ∃ m, w.heap.size = m := ⟨_, rfl⟩
  have HP1 : Hid (Blk w1 p 64 (endCells ep (.slice none 0 0) 0 0 m)) := hide (by rw [← hm]; exact unhide HP1)
  clear hp hm HN
  go_loopw [8] (fun i wr => ∃ (k : Nat) (Aw : Option Addr) (cw : Nat) (r : Bodies), k ≤ bs.length ∧ k ≤ 40 ∧ i = .int .i64 k ∧ r.length = k ∧ Blk wr p 64 (endCells ep (.slice Aw k cw) 0 0 m) ∧ wr.ownsRow (p + 1) 22 1 (.slice Aw k cw) k (rowOf r) ∧ Lie wr r ∧ Below w.heap.size w wr) (fun i _ => bs.length - (intOf i).toNat)
  case atStart => exact ⟨0, none, 0, [], by omega, by omega, rfl, rfl, unhide HP1, own_nil _ _ _ _, fun x hx => absurd hx (by simp), unhide HB1⟩
  case round =>
    obtain ⟨k, Aw, cw, r, hk, hk40, rfl, hrl, hpb, hown, hlie, hbel⟩ := hrel
    have HP := hide hpb
    have HO := hide hown
    have HL := hide hlie
    have HB := hide hbel
    clear hpb hown hlie hbel HP1
    by_cases hgo : k < bs.length ∧ k < 40
    · obtain ⟨hlt, h40⟩ := hgo
      obtain ⟨x, hx⟩ : ∃ x, bs[k]? = some x := ⟨bs[k], List.getElem?_eq_getElem hlt⟩
      obtain ⟨ad, hA, hadl, hc1, hr1, hl1, hc2⟩ := (unhide HBS).below (unhide HB) k x hx
      subst hA
      have HSH := hide (short_any x.2.1 x.1.length x.2.2 wr hl1 (by omega))
      have hbl : (x.1.take 300).length = min x.1.length 300 := by rw [List.length_take, Nat.min_comm]
      have HSE := hide (send_ok p ep 0 0 Aw k cw m (rowOf r) (x.1.take 300) x.2.1 x.2.2 w.heap.size wr (unhide HP) (unhide HO) (by omega) (by omega) (hr1.take 300) (unhide HB).size)
      rw [hbl] at HSE
      clear hx hr1
      go_wp2_with (first
        | (go_at_call 20; refine (unhide HSH).mono ?_; rintro _ w2 ⟨rfl, rfl⟩)
        | (go_at_call 11; refine (unhide HSE).mono ?_; rintro _ w2 ⟨rfl, A1, c1, Aw2, cw2, hp2, hown2, hrd2, hcc2, hcap2, hbel2, hst2⟩))
      refine ⟨⟨k + 1, Aw2, cw2, r ++ [(x.1.take 300, A1, c1)], by omega, by omega, by go_num, by simp [hrl], hp2, ?_, ?_, (unhide HB).trans (hbel2.mono hwp)⟩, by simp [intOf]; omega⟩
      · rw [rowOf, List.map_append]
        exact hown2
      · intro y hy
        rcases List.mem_append.1 hy with hy | hy
        · exact ((unhide HL).stays hst2) y hy
        · obtain rfl := List.mem_singleton.1 hy
          exact ⟨hrd2, hcc2, by simp only [hbl]; omega⟩
    · have HOUT := hide (out_any p ep 0 0 Aw k cw m r wr (unhide HP) (unhide HO) (unhide HL) (by omega) (by omega) (by omega))
      have hkm : Hid ((k : Int) = min (bs.length : Int) 40) := hide (by omega)
      rcases Nat.lt_or_ge k bs.length with hlt | hlt
      all_goals
        go_wp2_with (go_at_call 12; refine (unhide HOUT).mono ?_; rintro _ w3 ⟨k1, Ao, co, q, rfl, hk1, hql, hqm, hrow, hlq, hbel3, hst3⟩; have hk16 : k1 ≤ 16 := (by omega); have hk1' := hide hk1; clear hk1)
        have HP3 := hide ((unhide HP).below hbel3 (unhide HP).lt)
        have HO3 := hide (own_below (unhide HO) hbel3 (fun g hg => ((unhide HO).lt g hg).2))
        have HL3 := hide ((unhide HL).stays hst3)
        have HB3 := hide ((unhide HB).trans (hbel3.mono (unhide HB).size))
        have HQ3 := hide hrow
        have HLQ := hide hlq
        have HQM := hide hqm
        clear hrow hlq hbel3 hst3 hqm HP HO HL HB HOUT
        go_loopw [10] (fun i wx => ∃ j : Nat, j ≤ fs.length ∧ j ≤ 40 ∧ i = .int .i64 j ∧ Blk wx p 64 (endCells ep (.slice Aw k cw) 0 0 m) ∧ wx.ownsRow (p + 1) 22 1 (.slice Aw k cw) k (rowOf r) ∧ Lie wx r ∧
            wx.ownsRow wr.heap.size 31 5 (.slice Ao k1 co) k1 (outCells ep 0 0 0 q) ∧ Lie wx q ∧ Below w.heap.size w wx) (fun i _ => fs.length - (intOf i).toNat)
        case atStart => exact ⟨0, by omega, by omega, rfl, unhide HP3, unhide HO3, unhide HL3, unhide HQ3, unhide HLQ, unhide HB3⟩
        case round =>
          obtain ⟨j, hj, hj40, rfl, hpb, hown, hlie, hq, hlq, hbel⟩ := hrel
          have HP := hide hpb
          have HO := hide hown
          have HL := hide hlie
          have HQ := hide hq
          have HLQ := hide hlq
          have HB := hide hbel
          clear hpb hown hlie hq hlq hbel HP3 HO3 HL3 HQ3 HB3
          by_cases hgo2 : j < fs.length ∧ j < 40
          · obtain ⟨hlt2, h402⟩ := hgo2
            obtain ⟨x, hx⟩ : ∃ x, fs[j]? = some x := ⟨fs[j], List.getElem?_eq_getElem hlt2⟩
            obtain ⟨ad, hA2, hadl2, c0, c1, c2, c3, c4⟩ := (unhide HFS).below (unhide HB) j x hx
            subst hA2
            rw [← Addr.add_add] at c1 c2 c3 c4
            have e1 : wr.cell? ⟨(ad.add (j * 5)).block, (ad.add (j * 5)).off + 1, none⟩ = some (.int .i64 x.2.1) := c1
            have e2 : wr.cell? ⟨(ad.add (j * 5)).block, (ad.add (j * 5)).off + 2, none⟩ = some (.int .i64 x.2.2.1) := c2
            have e3 : wr.cell? ⟨(ad.add (j * 5)).block, (ad.add (j * 5)).off + 3, none⟩ = some (.int .i64 x.2.2.2.1) := c3
            have e4 : wr.cell? ⟨(ad.add (j * 5)).block, (ad.add (j * 5)).off + 4, none⟩ = some (.slice x.2.2.2.2.2.1 x.2.2.2.2.1.length x.2.2.2.2.2.2) := c4
            clear hx
            by_cases hxe : x.2.1 = ep
            · have f1 : (x.2.1 == ep) = true := beq_iff_eq.2 hxe
              go_wp2_with fail
              refine ⟨⟨j + 1, by omega, by omega, by go_num, unhide HP, unhide HO, unhide HL, unhide HQ, unhide HLQ, unhide HB⟩, by simp [intOf]; omega⟩
            · have f1 : (x.2.1 == ep) = false := beq_eq_false_iff_ne.2 hxe
              have HIN := hide (in_alien p ep 0 0 (.slice Aw k cw) m x.1 x.2.1 x.2.2.1 x.2.2.2.1 x.2.2.2.2.2.1 x.2.2.2.2.1.length x.2.2.2.2.2.2 _ (unhide HP) hxe)
              go_wp2_with (go_at_call 14; refine (unhide HIN).mono ?_; rintro _ w4 ⟨rfl, hb4⟩)
              refine ⟨⟨j + 1, by omega, by omega, by go_num, (unhide HP).below hb4 (unhide HP).lt, own_below (unhide HO) hb4 (fun g hg => ((unhide HO).lt g hg).2), (unhide HL).stays (Stays.of_below hb4 (Nat.le_refl _)), own_below (unhide HQ) hb4 (fun g hg => ((unhide HQ).lt g hg).2), (unhide HLQ).stays (Stays.of_below hb4 (Nat.le_refl _)), (unhide HB).trans (hb4.mono (unhide HB).size)⟩, by simp [intOf]; omega⟩
          · rcases Nat.lt_or_ge j fs.length with hlt2 | hlt2
            all_goals
              go_wp2_with (first
                | (go_at_call 15; refine (unhide HA _).mono ?_; rintro _ w5 ⟨rfl, hb5⟩
                   have HP5 := hide ((unhide HP).below hb5 (unhide HP).lt); have HO5 := hide (own_below (unhide HO) hb5 (fun g hg => ((unhide HO).lt g hg).2)); have HL5 := hide ((unhide HL).stays (Stays.of_below hb5 (Nat.le_refl _)))
                   have HQ5 := hide (own_below (unhide HQ) hb5 (fun g hg => ((unhide HQ).lt g hg).2)); have HLQ5 := hide ((unhide HLQ).stays (Stays.of_below hb5 (Nat.le_refl _))); have HB5 := hide ((unhide HB).trans (hb5.mono (unhide HB).size))
                   have HOUT5 := hide (out_any p ep 0 0 Aw k cw m r w5 (unhide HP5) (unhide HO5) (unhide HL5) (by omega) (by omega) (by omega)); clear hb5)
                | (go_at_call 12; refine (unhide HOUT5).mono ?_; rintro _ w6 ⟨k2, Ao2, co2, q2, rfl, hk2, hql2, hqm2, hrow2, hlq2, hbel6, hst6⟩
                   obtain rfl : k2 = k1 := by have := unhide hk1'; omega
                   have HP6 := hide ((unhide HP5).below hbel6 (unhide HP5).lt); have HB6 := hide ((unhide HB5).trans (hbel6.mono (unhide HB5).size))
                   have HAL := hide (alike_any ep 0 0 q2 q Ao2 Ao k2 co2 co _ _ w6 hrow2 (own_below (unhide HQ5) hbel6 (fun g hg => ((unhide HQ5).lt g hg).2)) hql2 hql (hqm2.trans (unhide HQM).symm) hlq2 ((unhide HLQ5).stays hst6) hk16)
                   clear hk2 hrow2 hlq2 hbel6 hst6 hqm2)
                | (go_at_call 21; refine (unhide HAL).mono ?_; rintro _ w7 ⟨rfl, hbel7, _⟩
                   have HP7 := hide ((unhide HP6).below hbel7 (unhide HP6).lt); have HB7 := hide ((unhide HB6).trans (hbel7.mono (unhide HB6).size)); clear hbel7)
                | (go_at_call 22; refine (got_any p ep 0 0 _ m w7 (unhide HP7)).mono ?_; rintro _ w8 ⟨rfl, rfl⟩)
                | (go_at_call 19; refine (waiting_any p ep 0 0 Aw k cw m w7 (unhide HP7)).mono ?_; rintro _ w8 ⟨rfl, rfl⟩))
              all_goals
                go_ret
                exact ⟨ret_eq (congrArg Value.bool (beq_iff_eq.2 (by have := unhide hkm; omega))), unhide HB7⟩
end Go.Proofs.Ytmmkjphkfhgcpaa
