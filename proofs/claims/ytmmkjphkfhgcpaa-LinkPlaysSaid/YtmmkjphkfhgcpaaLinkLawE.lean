/- The walk of LinkPlays. -/
import Derived.Test.YtmmkjphkfhgcpaaLinkPlay
import Derived.Test.YtmmkjphkfhgcpaaLinkPlayOpen
import Derived.Deep.CutBlock
namespace Go.Proofs.Ytmmkjphkfhgcpaa
set_option linter.unusedVariables false
open Go.RowKit

def lopCells (kd v e sq a : Int) (A : Option Addr) (n c : Nat) : Array Value := #[.int .i64 kd, .int .i64 v, .int .i64 e, .int .i64 sq, .int .i64 a, .slice A n c]
theorem lopAt {w : World} {g : Nat} {t : TypeId} {kd v e sq a : Int} {A : Option Addr} {n c : Nat} (h : Blk w g t (lopCells kd v e sq a A n c)) :
    w.cell? ⟨g, 0, none⟩ = some (.int .i64 kd) ∧ w.cell? ⟨g, 1, none⟩ = some (.int .i64 v) ∧ w.cell? ⟨g, 2, none⟩ = some (.int .i64 e) ∧ w.cell? ⟨g, 3, none⟩ = some (.int .i64 sq) ∧ w.cell? ⟨g, 4, none⟩ = some (.int .i64 a) ∧ w.cell? ⟨g, 5, none⟩ = some (.slice A n c) :=
  ⟨h.cell 0, h.cell 1, h.cell 2, h.cell 3, h.cell 4, h.cell 5⟩
/-- the round's state: both ends, and what they hold alike -/
structure PRnd (w u : World) (p B pm : Nat) (ep : Int) (s : LS) (r : RS) (K : Nat) : Prop where
  two : Two w u p B pm s r
  inv : Inv s K
  rel : ∃ a, Rel s r a
  cl : r.C.length ≤ K
  ep : s.ep = ep
theorem PRnd.new {w u w' : World} {p B pm K : Nat} {ep : Int} {s : LS} {r : RS} (h : PRnd w u p B pm ep s r K) (hb : Below u.heap.size u w') : PRnd w w' p B pm ep s r K := ⟨h.two.new hb, h.inv, h.rel, h.cl, h.ep⟩
theorem PRnd.mono {w u : World} {p B pm K K' : Nat} {ep : Int} {s : LS} {r : RS} (h : PRnd w u p B pm ep s r K) (hk : K ≤ K') : PRnd w u p B pm ep s r K' := ⟨h.two, h.inv.mono hk, h.rel, Nat.le_trans h.cl hk, h.ep⟩

set_option maxHeartbeats 16000000 in
set_option maxRecDepth 20000 in
theorem linkPlays_any (ep : Int) (A : Option Addr) (c : Nat) (rs : List LOp) (w : World) (hin : InLOps w w.heap.size A rs) (hc : rs.length ≤ c) (hc2 : c ≤ 9223372036854775807) (hep : -9223372036854775808 ≤ ep) :
    Calls Try.prog 8 #[.int .i64 ep, .slice A rs.length c] w fun e w' => e = .returned (.bool true) ∧ Below w.heap.size w w' := by
  have HN := hide (new_e ep w)
  have HA := hide awake_any
  have HIN := hide hin
  clear hin
  go_enter Try.func8, Try.ntmps8
  go_upto_region 2 with (go_at_call 10; refine (unhide HN).mono ?_; rintro _ w1 ⟨p, rfl, he1, hm1, hbel1⟩; have HE1 := hide he1; have HM1 := hide hm1; have HB1 := hide hbel1; clear he1 hm1 hbel1)
  obtain ⟨w2, hw2⟩ : ∃ u, w1.alloc (.cells #[.int .i64 ep, .slice none 0 0, .int .i64 0, .slice none 0 0, .int .i64 0] 57) = u := ⟨_, rfl⟩
  have HT2 : Hid (PRnd w w2 p w1.heap.size w1.heap.size ep (newS ep w.heap.size) ⟨ep, none, 0, [], 0, none, 0, [], 0⟩ 0) := hide (by
    rw [← hw2]
    have hb : Below w1.heap.size w1 (w1.alloc (.cells #[.int .i64 ep, .slice none 0 0, .int .i64 0, .slice none 0 0, .int .i64 0] 57)) := (Below.refl _ _).alloc (Nat.le_refl _) _
    refine ⟨⟨(unhide HE1).new hb, ⟨Blk.new w1 _ _, own_nil _ _ _ _, own_nil _ _ _ _, fun x hx => by simp at hx, fun x hx => by simp at hx, Nat.le_refl _⟩, fun k hk => by simp [newS, Value.ownBlock] at hk, unhide HM1, (unhide HB1).size, (unhide HB1).trans (hb.mono (unhide HB1).size)⟩, newS_inv _ _ _, ⟨0, rfl, rfl, rfl, by simp, rfl, rfl, by simp [newS], fun c _ => rfl, fun x hx => by simp at hx⟩, by simp, rfl⟩)
  rw [hw2]
  clear hw2 HE1 HM1 HB1 HN
  generalize w1.heap.size = B at HT2 ⊢
  go_wp2_with fail
  go_loopw [7] (fun i wr => ∃ (k : Nat) (s : LS) (r : RS), k ≤ rs.length ∧ k ≤ 200 ∧ i = .int .i64 k ∧ PRnd w wr p B B ep s r k) (fun i _ => rs.length - (intOf i).toNat)
  case atStart => exact ⟨0, _, _, by omega, by omega, rfl, unhide HT2⟩
  case round =>
    obtain ⟨k, s, r, hk, hk200, rfl, hp⟩ := hrel
    have HP := hide hp
    clear hp HT2
    by_cases hgo : k < rs.length ∧ k < 200
    · obtain ⟨hlt, h200⟩ := hgo
      obtain ⟨x, hx⟩ : ∃ x, rs[k]? = some x := ⟨rs[k], List.getElem?_eq_getElem hlt⟩
      obtain ⟨ad, hAd, hadl, c0, c1, c2, c3, c4, c5, hrd, hbl, hbc, hsq, hac⟩ := ((unhide HIN).below (unhide HP).two.bel) k x hx
      obtain ⟨kd, v, e, sq, a, b, Ab, cb⟩ := x
      simp only at c0 c1 c2 c3 c4 c5 hrd hbl hbc hsq hac
      subst hAd
      rw [← Addr.add_add] at c1 c2 c3 c4 c5
      have e1 : wr.cell? ⟨(ad.add (k * 6)).block, (ad.add (k * 6)).off + 1, none⟩ = some (.int .i64 v) := c1
      have e2 : wr.cell? ⟨(ad.add (k * 6)).block, (ad.add (k * 6)).off + 2, none⟩ = some (.int .i64 e) := c2
      have e3 : wr.cell? ⟨(ad.add (k * 6)).block, (ad.add (k * 6)).off + 3, none⟩ = some (.int .i64 sq) := c3
      have e4 : wr.cell? ⟨(ad.add (k * 6)).block, (ad.add (k * 6)).off + 4, none⟩ = some (.int .i64 a) := c4
      have e5 : wr.cell? ⟨(ad.add (k * 6)).block, (ad.add (k * 6)).off + 5, none⟩ = some (.slice Ab b.length cb) := c5
      clear hx c1 c2 c3 c4 c5
      have HM0 := hide ((Mem.start wr).new (t := 59) (cs := lopCells 0 0 0 0 0 none 0 0) wr.heap.size rfl)
      go_upto_region 8 with (refine wpList_store_blk rfl 59 (.tmp 8) (.tmp 33) rfl (wr.heap.size) _ (by rfl) (by rfl) 59 _ (unhide HM0).blk0 (by kernel_rfl) (by rfl) (by simp [Value.oneCell']) ?_; intro w3 hbS hgS; have HM3 := hide ((unhide HM0).grown0 hbS hgS); have HGw3 := hide hgS; clear hbS hgS)
      have fo3 := lopAt (unhide HM3).blk0
      have fz3 := (unhide HM3).blk0.frozen 5
      obtain ⟨b2, hb2⟩ : ∃ b2, b.take 300 = b2 := ⟨_, rfl⟩
      have hl2 : b2.length = min b.length 300 := by rw [← hb2, List.length_take, Nat.min_comm]
      have HSH : Hid (∀ u, Calls Try.prog 20 #[.slice Ab b.length cb] u fun e w' => e = .returned (.slice Ab b2.length cb) ∧ u = w') := hide (fun u => by rw [hl2]; exact short_any Ab b.length cb u hbl (by omega))
      have hl3 : b2.length ≤ 300 := by omega
      have hl4 : b2.length ≤ cb := by omega
      have HRD2 : Hid (RdB wr w.heap.size Ab b2) := hide (by rw [← hb2]; exact hrd.take 300)
      clear HM0 HGw3 hrd hb2 hl2
      go_upto_block 2 with (go_at_call 20; refine (unhide HSH _).mono ?_; rintro _ w4 ⟨rfl, rfl⟩)
      have HM4 : Hid (Mem wr (w3.setCell ⟨wr.heap.size, 5, none⟩ (.slice Ab b2.length cb)) [(wr.heap.size, 59, lopCells kd v e sq a Ab b2.length cb)]) := hide ((unhide HM3).set0)
      generalize w3.setCell ⟨wr.heap.size, 5, none⟩ (.slice Ab b2.length cb) = w4 at HM4 ⊢
      have fo4 := lopAt (unhide HM4).blk0
      have HP4 := hide ((unhide HP).new (unhide HM4).below)
      have HRD4 := hide ((unhide HRD2).below ((unhide HM4).below.mono (unhide HP).two.size))
      have HOB : Hid (Blk w4 wr.heap.size 59 (lopCells kd v e sq a Ab b2.length cb)) := hide (unhide HM4).blk0
      have HOF : Hid (∀ k, Foot p s k ∨ RFoot B r k → k < wr.heap.size) := hide (fun k hk => hk.elim (fun h => (unhide HP).two.e.foot k h) (fun h => ((unhide HP).two.f.mem h).2))
      have hsz4 : wr.heap.size < w4.heap.size := (unhide HOB).lt
      have hszw : w.heap.size ≤ wr.heap.size := (unhide HP).two.size
      clear fo3 fz3 HM3 HSH HRD2 HM4 hbl e1 e2 e3 e4 e5 c0
      go_cut [] (fun u => ∃ (s : LS) (r : RS), PRnd w u p B B ep s r (k + 1))
      case first =>
        by_cases k0 : kd = 0
        · have f0 : (kd == 0) = true := beq_iff_eq.2 k0
          have HK0 := hide k0
          clear k0
          have hr4 := (unhide HP4).inv.q
          go_upto_region 11 with fail
          have HT4 : Hid (Two w w4.drew p B B s r) := hide ((unhide HP4).two.new (Below.refl _ _).drew)
          have HR4 : Hid (RdB w4.drew w.heap.size Ab b2) := hide (unhide HRD4).drew
          obtain ⟨a0, hrel⟩ := (unhide HP4).rel
          have hra := hrel.ra; have hsa := hrel.sa; have hal := hrel.al; have hlen := hrel.len; have hsent := (unhide HP4).inv.sent
          have hk1 : r.S.length ≤ 200 := by omega
          have hk2 : (r.S.length : Int) - r.ak < 4096 := by omega
          have hk3 : 0 ≤ r.ak := by omega
          have hk4 : r.ak ≤ 1000000 := by omega
          have HREL := hide hrel
          clear hrel hra hsa hal hlen hsent
          have hq4 : s.r.length < 4096 := by have := (unhide HP4).inv.sent; have := (unhide HP4).inv.s0; omega
          have c5 := fo4.2.2.2.2.2
          clear fo4
          go_region_held3 (fun u => u.cell? ⟨wr.heap.size, 5, none⟩ = some (.slice Ab b2.length cb)) (first | assumption | go_keep)
            (first
              | (go_at_call 11; go_must ((refine (send_end p s b2 Ab cb w.heap.size _ (unhide HT4).e hq4 (by omega) (unhide HR4) (by simp; omega)).mono ?_; rintro _ w5 ⟨rfl, wv, x, hx, _, hst⟩; have hT5 := (unhide HT4).link hst; have HT5 := hide hT5; have HX := hide hx; have hob5 := (unhide HOB).only (w := w4.drew) hst.only (fun h => Nat.lt_irrefl _ (unhide HOF _ (.inl h))); have c5w : w5.cell? ⟨wr.heap.size, 5, none⟩ = some (.slice Ab b2.length cb) := hob5.cell 5; have HOB5 := hide hob5; have HR5 := hide ((unhide HR4).only2 hst.only (by simp; omega) (unhide HT4).mine); clear hst hT5 hob5 hx)))
              | (go_at_call 23; go_must ((refine (refSend_any B B r b2 Ab cb w.heap.size _ (unhide HT5).f (by omega) (by omega) (by omega) (by omega) (by omega) (unhide HR5) (by have := (unhide HT5).size; omega)).mono ?_; rintro _ w6 ⟨rfl, sA, sc, y, hy, ha6, ho6, hb6, hf6⟩; have HT6 := hide ((unhide HT5).refSent ha6 ho6 hb6 hf6); have HY := hide hy; have c5w6 : w6.cell? ⟨wr.heap.size, 5, none⟩ = some (.slice Ab b2.length cb) := ((unhide HOB5).only ho6 (fun h => Nat.lt_irrefl _ (unhide HOF _ (.inr h)))).cell 5; clear ha6 ho6 hb6 hf6 hy))))
          all_goals go_wp2_with fail
          all_goals
            go_meet
            case rel =>
              have hrel := unhide HREL
              exact ⟨_, _, unhide HT6, (unhide HP4).inv.sent_ hq4 wv x, ⟨_, hrel.sent_ wv x y sA sc ((unhide HX).trans (unhide HY).symm)⟩, Nat.le_succ_of_le (unhide HP4).cl, (unhide HP4).ep⟩
        by_cases k1 : kd = 1
        · have f0 : (kd == 0) = false := beq_eq_false_iff_ne.2 k0
          have f1 : (kd == 1) = true := beq_iff_eq.2 k1
          have HK0 := hide k0
          clear k0 k1
          obtain ⟨a0, hrel⟩ := (unhide HP4).rel
          have hra := hrel.ra; have hsa := hrel.sa; have hal := hrel.al; have hlen := hrel.len; have hsent := (unhide HP4).inv.sent; have hgot := hrel.got; have hgi := (unhide HP4).inv.got; have hg0 := hrel.g0; have hcl := (unhide HP4).cl
          have hk1 : r.S.length ≤ 200 := by omega
          have hk3 : 0 ≤ r.ak := by omega
          have hk4 : r.ak ≤ 1000000 := by omega
          have hk5 : 0 ≤ r.got := by omega
          have hk6 : r.got ≤ 100000000 := by omega
          have hwin := hide hrel.win
          have HREL := hide hrel
          have hmp := (unhide HP4).two.mine p (.inl rfl)
          have hmB := (unhide HP4).two.ge
          have hsz0 : w.heap.size ≤ w4.heap.size := by omega
          have HI4 := hide (unhide HP4).inv
          clear hrel hra hsa hal hlen hsent hgot hgi
          go_upto_region 16 with (first
            | (go_at_call 14; go_must ((refine (in_end p s k v e sq a Ab b2 cb _ (unhide HP4).two.e (unhide HI4) (by omega) (fun u hu => ((unhide HRD4).only2 hu hsz0 (fun k hk => hk ▸ hmp)).more hsz0) (by omega) hac hsq).mono ?_; rintro _ w5 ⟨s', q, Ao, co, er, rfl, hrow5, hok5, hst5, hi5, _, hin5⟩; have HT5 := hide ((unhide HP4).two.link hst5); have HRD5 := hide ((unhide HRD4).only2 hst5.only hsz0 (unhide HP4).two.mine); have HRow5 := hide hrow5; have HOK5 := hide hok5; have HI5 := hide hi5; have fo5 := lopAt ((unhide HOB).only hst5.only (fun h => Nat.lt_irrefl _ (unhide HOF _ (.inl h)))); have HIN5 := hide hin5; have hsz5 := hst5.only.size; clear hrow5 hok5 hst5 hi5 hin5)))
            | (go_at_call 24; go_must ((refine (refIn_any B B r v e sq a Ab b2 cb _ (unhide HT5).f hk3 hk4 (by omega) (by omega) hk5 hk6 hsq (fun u hu => ((unhide HRD5).only2 hu (by omega) (fun k hk => hk ▸ hmB)).more (by omega)) (by omega) (unhide hwin)).mono ?_; rintro _ w6 ⟨r', q', Ao', co', er', rfl, hrow6, hok6, ha6, ho6, hb6, hin6, hA6, hc6, hC6⟩; have hS6 := hin6.2.1; have HT6 := hide ((unhide HT5).ref ha6 ho6 hb6 (.inl (by rw [hA6, hc6, hS6]))); have HRow5a := hide (own_only (unhide HRow5) ho6 (fun k hk h => by have h1 := ((unhide HRow5).lt k hk).1; have h2 := ((unhide HP4).two.f.mem h).2; omega)); have HOK5a := hide (fun x hx => (unhide HOK5 x hx).by hb6); have HRow6 := hide hrow6; have HOK6 := hide hok6; have HIN6 := hide hin6; have hC6' : r'.C.length ≤ k + 1 := (by omega); clear hrow6 hok6 ha6 ho6 hb6 hin6 hA6 hc6 hS6 hC6))))
          obtain ⟨here, hqq, a', hrel'⟩ := rel_in (unhide HREL) (unhide HIN5) (unhide HIN6)
          subst here
          have hqn := (unhide HIN5).few ((unhide HI4).mono (Nat.le_succ k)) (unhide HI5)
          have HSM := hide (sameBodies_any q q' Ao Ao' co co' _ _ w6 (unhide HRow5a) (unhide HRow6) hqq (unhide HOK5a) (unhide HOK6) (by omega))
          have HREL' := hide hrel'
          clear hqq hrel'
          go_wp2_with (go_at_call 18; refine (unhide HSM).mono ?_; rintro _ w7 ⟨rfl, n7, rfl⟩)
          go_meet
          case rel => exact ⟨s', r', (unhide HT6).drewN _, unhide HI5, ⟨a', unhide HREL'⟩, hC6', by rw [(unhide HREL').ep, (unhide HIN6).1, ← (unhide HREL).ep]; exact (unhide HP4).ep⟩
        have f0 : (kd == 0) = false := beq_eq_false_iff_ne.2 k0
        have f1 : (kd == 1) = false := beq_eq_false_iff_ne.2 k1
        by_cases k2 : kd = 2
        · have f2 : (kd == 2) = true := beq_iff_eq.2 k2
          clear k0 k1 k2
          obtain ⟨a0, hrel⟩ := (unhide HP4).rel
          have hep4 := (unhide HP4).ep
          have g1 : (s.ep == ep) = true := beq_iff_eq.2 hep4
          have g2 : (s.ep != ep) = false := by rw [hep4]; simp
          have hgot := hrel.got
          have HREL := hide hrel
          have HG := hide hgot
          have hsz0 : w.heap.size ≤ w4.heap.size := by omega
          clear hrel hgot hep4
          go_upto_region 20 with (first
            | (go_at_call 17; go_must ((refine (note_end p s b2 Ab cb w.heap.size _ (unhide HP4).two.e (unhide HRD4) hsz0 (by omega)).mono ?_; rintro _ w5 ⟨A2, c2, rfl, hrt5, hlc5, hb5, _⟩; have HP5 := hide ((unhide HP4).new hb5); have HRT5 := hide hrt5; have HRD5 := hide ((unhide HRD4).below (hb5.mono hsz0)); have HOB5 := hide ((unhide HOB).below hb5 (unhide HOB).lt); have HM5 := hide ((Mem.start w5).new (t := 31) (cs := #[.int .i64 0, .int .i64 0, .int .i64 0, .int .i64 0, .slice none 0 0]) w5.heap.size rfl); clear hrt5 hb5)))
            | (refine wpList_store_blk rfl 31 (.tmp 13) (.tmp 84) rfl (w5.heap.size) _ (by rfl) (by rfl) 31 _ (unhide HM5).blk0 (by kernel_rfl) (by rfl) (by simp [Value.oneCell']) ?_; intro w6 hbS hgS; have HM6 := hide ((unhide HM5).grown0 hbS hgS); have HGw6 := hide hgS; clear hbS hgS))
          have HP6 := hide ((unhide HP5).new (unhide HM6).below)
          have fn6 := Lnk.cellsAt (unhide HM6).blk0
          have fr6 : w6.cell? ⟨B, 4, none⟩ = some (.int .i64 s.got) := by rw [unhide HG]; exact (refAt (unhide HP6).two.f.blk).2.2.2.2
          have hsz6 := (unhide HM6).size
          have HSM : Hid (Calls Try.prog 13 #[.slice A2 b2.length c2, .slice Ab b2.length cb] w6 fun e w' => e = .returned (.bool true) ∧ w6 = w') := hide (by
            have h := same_any b2 b2 A2 Ab c2 cb _ _ w6 ((unhide HRT5).stays (Stays.of_below (unhide HM6).below (Nat.le_refl _))).rd ((unhide HRD5).below ((unhide HM6).below.mono (unhide HP5).two.size))
            rw [beq_self_eq_true] at h
            exact h)
          have fo6 : w6.cell? ⟨wr.heap.size, 5, none⟩ = some (.slice Ab b2.length cb) := ((unhide HOB5).below (unhide HM6).below (unhide HOB5).lt).cell 5
          clear fo4
          go_wp2_with (go_at_call 13; refine (unhide HSM).mono ?_; rintro _ w7 ⟨rfl, rfl⟩)
          go_meet
          case rel => exact ⟨_, _, (unhide HP6).mono (Nat.le_succ _)⟩
        · have f2 : (kd == 2) = false := beq_eq_false_iff_ne.2 k2
          clear k0 k1 k2
          go_wp2_with fail
          go_meet
          case rel => exact ⟨_, _, (unhide HP4).mono (Nat.le_succ _)⟩
      case rest =>
        obtain ⟨s', r', hp5⟩ := hcut
        obtain ⟨a0, hrel⟩ := hp5.rel
        have hra := hrel.ra; have hsa := hrel.sa; have hal := hrel.al; have hlen := hrel.len; have hgot := hrel.got; have hq := hp5.inv.q; have hsent := hp5.inv.sent; have hs0 := hp5.inv.s0
        have hk1 : r'.S.length ≤ 201 := by omega
        have ha1 : a0 ≤ 1000000 := by omega
        have hep5 := hp5.ep
        have hrep : -9223372036854775808 ≤ r'.ep := by rw [← hrel.ep, hep5]; exact hep
        have hQ : ((r'.S.drop a0).take 16).length = min s'.r.length 16 := by rw [List.length_take, List.length_drop]; omega
        have HQL := hide hQ
        have HP5 := hide hp5; have HREL := hide hrel
        have hbody : (s'.r.map (·.1)).take (min s'.r.length 16) = ((r'.S.drop a0).take 16).map (·.1) := by
          rw [hrel.rr, List.map_take]
          have e : ((r'.S.drop a0).map (·.1)).length = s'.r.length := by simp; omega
          rw [← e, List.take_eq_take_iff]
          omega
        have HBODY := hide hbody
        have hk5 : s'.sent ≤ 1099511627776 := by omega
        have hsub : IntKind.i64.wrap ((r'.S.length : Int) - a0) = (s'.r.length : Int) := by rw [IntKind.wrap_i64]; omega
        have HSUB := hide hsub
        have HSA := hide hsa; have HRA := hide hra; have HGOT := hide hgot; have HEP5 := hide hep5
        clear hp5 hrel hra hsa hal hlen hgot hsent hQ hbody hsub hep5 fo4
        go_upto_region 22 with fail
        have HCells : Hid (∀ u, PRnd w u p B B ep s' r' (k + 1) → u.cell? ⟨B, 1, none⟩ = some (.slice r'.sA r'.S.length r'.sc) ∧ u.cell? ⟨B, 2, none⟩ = some (.int .i64 a0) ∧ u.cell? ⟨B, 4, none⟩ = some (.int .i64 s'.got)) := hide (fun u hu => by
          have h := refAt hu.two.f.blk
          rw [unhide HRA, ← unhide HGOT] at h
          exact ⟨h.2.1, h.2.2.1, h.2.2.2.2⟩)
        have HP5d := hide ((unhide HP5).new (Below.refl _ _).drew)
        have fc5 := unhide HCells _ (unhide HP5)
        have fc5d := unhide HCells _ (unhide HP5d)
        have hsub := unhide HSUB
        have g1 : (s'.ep == ep) = true := beq_iff_eq.2 (unhide HEP5)
        have g2 : (s'.ep != ep) = false := by rw [unhide HEP5]; simp
        go_region_held3 (fun u => u.cell? ⟨B, 1, none⟩ = some (.slice r'.sA r'.S.length r'.sc) ∧ u.cell? ⟨B, 2, none⟩ = some (.int .i64 a0) ∧ u.cell? ⟨B, 4, none⟩ = some (.int .i64 s'.got)) (first | assumption | exact fc5d | exact fc6 | exact fc7 | exact fc8 | go_keep)
          (first
            | (go_at_call 12; go_must ((refine (out_end p s' _ (unhide HP5d).two.e hq hs0 hk5).mono ?_; rintro _ w6 ⟨k1, Ao, co, q, rfl, hk1e, hql, hqm, hrow, hlq, hbel, hst, _, _⟩; have HP6 := hide ((unhide HP5d).new hbel); have fc6 := unhide HCells _ (unhide HP6); have HK1 := hide hk1e; have HQM := hide hqm; have HROW := hide hrow; have HLQ := hide hlq; have HQLn := hide hql; have hk16 : k1 ≤ 16 := (by omega); clear hk1e hql hqm hrow hlq hbel hst)))
            | (go_at_call 25; go_must ((refine (refOut_any B B r' a0 _ (unhide HP6).two.f (unhide HRA) ha1 (by omega) (unhide HREL).al hrep).mono ?_; rintro _ w7 ⟨k2, Ao2, co2, q2, rfl, hql2, hq2, hrow2, hbel2⟩; obtain rfl : k2 = k1 := (by rw [← hql2, hq2, unhide HQL, unhide HK1]); have HP7 := hide ((unhide HP6).new hbel2); have fc7 := unhide HCells _ (unhide HP7); have HROW7 := hide (own_below (unhide HROW) hbel2 (fun g hg => ((unhide HROW).lt g hg).2)); have HLQ7 := hide ((unhide HLQ).stays (Stays.of_below hbel2 (Nat.le_refl _))); rw [← (unhide HREL).ep, ← unhide HSA, ← unhide HGOT] at hrow2; have HROW2 := hide hrow2; have HLQ2 : Hid (Lie w7 q2) := hide (fun x hx => (unhide HP7).two.f.lieS x (List.mem_of_mem_drop (List.mem_of_mem_take (hq2 ▸ hx)))); have HMAP : Hid (q.map (·.1) = q2.map (·.1)) := hide (by rw [unhide HQM, hq2, unhide HK1]; exact unhide HBODY); have HAL := hide (alike_any s'.ep s'.sent s'.got q q2 Ao Ao2 k2 co co2 _ _ w7 (unhide HROW7) (unhide HROW2) (unhide HQLn) hql2 (unhide HMAP) (unhide HLQ7) (unhide HLQ2) hk16); clear hql2 hq2 hrow2 hbel2)))
            | (go_at_call 21; go_must ((refine (unhide HAL).mono ?_; rintro _ w8 ⟨rfl, hbel8, _⟩; have HP8 := hide ((unhide HP7).new hbel8); have fc8 := unhide HCells _ (unhide HP8); clear hbel8)))
            | (go_at_call 19; go_must ((refine (waiting_end p s' _ (unhide HP8).two.e).mono ?_; rintro _ w9 ⟨rfl, rfl⟩)))
            | (go_at_call 22; go_must ((refine (got_end p s' _ (unhide HP8).two.e).mono ?_; rintro _ w9 ⟨rfl, rfl⟩)))
            | (go_at_call 26; go_must ((refine (epoch_end p s' _ (unhide HP8).two.e).mono ?_; rintro _ w9 ⟨rfl, rfl⟩))))
        all_goals go_wp2_with fail
        exact ⟨⟨k + 1, s', r', by omega, by omega, by go_num, unhide HP8⟩, by simp [intOf]; omega⟩
    · rcases Nat.lt_or_ge k rs.length with hlt | hlt
      all_goals
        go_wp2_with (go_at_call 15; refine (unhide HA _).mono ?_; rintro _ w5 ⟨rfl, hb5⟩)
        go_ret
        exact ⟨rfl, (unhide HP).two.bel.trans (hb5.mono (unhide HP).two.size)⟩
end Go.Proofs.Ytmmkjphkfhgcpaa
