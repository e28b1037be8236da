/- One call of both nets, answered by a number. -/
import Derived.Test.YtbclfiollfagmaaNetDoBase
namespace Go.Proofs.Ytbclfiollfagmaa
set_option linter.unusedVariables false
open Go.RowKit

set_option maxHeartbeats 4000000 in
set_option maxRecDepth 20000 in
theorem do_send (B p q Bb k : Nat) (s : NS) (d : DS) (f t i at_ : Int) (m : UInt8) (l : List UInt8) (A : Option Addr) (c : Nat) (w : World) (h : Both w B p q s d k) (ho : (NOp.mk 1 f t i at_ m l A c).Ok w Bb) (hBb : Bb ≤ B) (hl : l.length ≤ 4096) (hk : k ≤ 1000) :
    Calls Try.prog 21 #[.pointer (some ⟨p, 0, none⟩), .pointer (some ⟨q, 0, none⟩), .agg #[.int .i64 1, .int .i64 f, .int .i64 t, .int .i64 i, .int .i64 at_, .int .u8 (m.toNat : Int), .slice A l.length c]] w (DoneP w B p q k s d ⟨1, f, t, i, at_, m, l, A, c⟩) := by
  have hs : d.row.length ≤ 100000 := by have := h.rows; omega
  have hl0 : 0 ≤ s.lost := by rw [h.rel.lost]; exact h.lo
  have hl1 : s.lost ≤ 1000000 := by rw [h.rel.lost]; have := h.hi; omega
  have hBw := h.net.base
  obtain ⟨v, F, G, hn, hd, haf⟩ := pair_send (B := B) (p := p) (q := q) (Bb := Bb) h.rel (o := ⟨1, f, t, i, at_, m, l, A, c⟩) rfl hs hl0 hl1 hl
  have hal : Below w.heap.size w (w.alloc (.cells #[.int .i64 1, .int .i64 f, .int .i64 t, .int .i64 i, .int .i64 at_, .int .u8 (m.toNat : Int), .slice A l.length c] 47)) := (Below.refl _ _).alloc (Nat.le_refl _) _
  have hbk := Blk.new w 47 #[.int .i64 1, .int .i64 f, .int .i64 t, .int .i64 i, .int .i64 at_, .int .u8 (m.toNat : Int), .slice A l.length c]
  have hb0 := h.new hal
  obtain ⟨w0, hw0⟩ : ∃ u, w.alloc (.cells #[.int .i64 1, .int .i64 f, .int .i64 t, .int .i64 i, .int .i64 at_, .int .u8 (m.toNat : Int), .slice A l.length c] 47) = u := ⟨_, rfl⟩
  rw [hw0] at hal hbk hb0
  have fo := opAt hbk
  have fod := opAt hbk.drew
  have HBK := hide hbk
  have HB0 := hide hb0
  have HB0d : Hid (Both w0.drew B p q s d k) := hide (hb0.new (Below.refl _ _).drew)
  have HH := hide h
  have HAL := hide hal
  have HRD : Hid (RdB w0.drew Bb A l) := hide ((ho.rd.below (hal.mono (by omega))).drewN 1)
  have hBs : Bb ≤ w0.drew.heap.size := Nat.le_trans (by omega) hal.size
  have HN := hide hn; have HD := hide hd; have HAF := hide haf
  have hvv : (v == v) = true := beq_self_eq_true v
  clear h hal hbk hb0 hn hd haf ho
  have fS := (⟨fod.2.1, fod.2.2.1, fod.2.2.2.2.2.2⟩ : w0.drew.cell? ⟨w.heap.size, 1, none⟩ = some (.int .i64 f) ∧ w0.drew.cell? ⟨w.heap.size, 2, none⟩ = some (.int .i64 t) ∧ w0.drew.cell? ⟨w.heap.size, 6, none⟩ = some (.slice A l.length c))
  go_enter Try.func21, Try.ntmps21
  go_upto_region 3 with fail
  go_region_held3 (fun u => u.cell? ⟨w.heap.size, 1, none⟩ = some (.int .i64 f) ∧ u.cell? ⟨w.heap.size, 2, none⟩ = some (.int .i64 t) ∧ u.cell? ⟨w.heap.size, 6, none⟩ = some (.slice A l.length c)) (first | assumption | exact fS | exact fS1 | exact fS2 | go_keep)
    (first
      | (go_at_call 11; go_must ((refine (unhide HN _ (unhide HB0d).net (unhide HRD) hBs).mono ?_; rintro _ w1 ⟨s', rfl, hst, hF⟩; have hst' : NStep w0 w1 B p s s' := ⟨hst.at_, ⟨hst.only.os, hst.only.tape, hst.only.output, hst.only.size, hst.only.block⟩, hst.foot⟩; have HST := hide hst'; have HF := hide hF; have hdoc := (unhide HB0).docOf hst'; have HDOC := hide hdoc; have hk1 := (unhide HBK).only hst'.only (fun hf => Nat.lt_irrefl _ ((unhide HH).net.foot hf).2); have fo1 := opAt hk1; have HK1 := hide hk1; have fS1 := (⟨fo1.2.1, fo1.2.2.1, fo1.2.2.2.2.2.2⟩ : w1.cell? ⟨w.heap.size, 1, none⟩ = some (.int .i64 f) ∧ w1.cell? ⟨w.heap.size, 2, none⟩ = some (.int .i64 t) ∧ w1.cell? ⟨w.heap.size, 6, none⟩ = some (.slice A l.length c)); have HRD1 := hide ((unhide HRD).below (w' := w1) ⟨(hst.below (unhide HB0d).net (unhide HB0d).net.base).os, (hst.below (unhide HB0d).net (unhide HB0d).net.base).tape, (hst.below (unhide HB0d).net (unhide HB0d).net.base).output, hst.only.size, fun g hg => (hst.below (unhide HB0d).net (unhide HB0d).net.base).block g (by omega)⟩); have hBs1 : Bb ≤ w1.heap.size := Nat.le_trans hBs hst.only.size; clear hst hF hst' hdoc hk1)))
      | (go_at_call 30; go_must ((refine (unhide HD _ (unhide HDOC) (unhide HRD1) hBs1).mono ?_; rintro _ w2 ⟨d', rfl, hst2, hG⟩; have HST2 := hide hst2; have HG := hide hG; have hk2 := (unhide HK1).only hst2.only (fun hf => Nat.lt_irrefl _ ((unhide HH).doc.foot hf).2); have fo2 := opAt hk2; have fS2 := (⟨fo2.2.1, fo2.2.2.1, fo2.2.2.2.2.2.2⟩ : w2.cell? ⟨w.heap.size, 1, none⟩ = some (.int .i64 f) ∧ w2.cell? ⟨w.heap.size, 2, none⟩ = some (.int .i64 t) ∧ w2.cell? ⟨w.heap.size, 6, none⟩ = some (.slice A l.length c)); clear hk2 fo2; clear hst2 hG))))
  all_goals go_wp2_with fail
  all_goals
    go_ret
    obtain ⟨hb2, hs2⟩ := (unhide HB0).done (unhide HST) (unhide HST2) (unhide HAF _ _ (unhide HF) (unhide HG))
    exact ⟨by first | rfl | (rw [hvv]; rfl), _, _, hb2, hs2.of_new (unhide HAL), (unhide HAF _ _ (unhide HF) (unhide HG)).moved⟩
set_option maxHeartbeats 4000000 in
set_option maxRecDepth 20000 in
theorem do_lose (B p q Bb k : Nat) (s : NS) (d : DS) (f t i at_ : Int) (m : UInt8) (l : List UInt8) (A : Option Addr) (c : Nat) (w : World) (h : Both w B p q s d k) (ho : (NOp.mk 3 f t i at_ m l A c).Ok w Bb) (hBb : Bb ≤ B) (hl : l.length ≤ 4096) (hk : k ≤ 1000) :
    Calls Try.prog 21 #[.pointer (some ⟨p, 0, none⟩), .pointer (some ⟨q, 0, none⟩), .agg #[.int .i64 3, .int .i64 f, .int .i64 t, .int .i64 i, .int .i64 at_, .int .u8 (m.toNat : Int), .slice A l.length c]] w (DoneP w B p q k s d ⟨3, f, t, i, at_, m, l, A, c⟩) := by
  have hs : d.row.length ≤ 100000 := by have := h.rows; omega
  have hl0 : 0 ≤ s.lost := by rw [h.rel.lost]; exact h.lo
  have hl1 : s.lost ≤ 1000000 := by rw [h.rel.lost]; have := h.hi; omega
  have hBw := h.net.base
  obtain ⟨v, F, G, hn, hd, haf⟩ := pair_lose (B := B) (p := p) (q := q) (Bb := Bb) h.rel (o := ⟨3, f, t, i, at_, m, l, A, c⟩) rfl hs hl0 hl1 ho.lo ho.hi
  have hal : Below w.heap.size w (w.alloc (.cells #[.int .i64 3, .int .i64 f, .int .i64 t, .int .i64 i, .int .i64 at_, .int .u8 (m.toNat : Int), .slice A l.length c] 47)) := (Below.refl _ _).alloc (Nat.le_refl _) _
  have hbk := Blk.new w 47 #[.int .i64 3, .int .i64 f, .int .i64 t, .int .i64 i, .int .i64 at_, .int .u8 (m.toNat : Int), .slice A l.length c]
  have hb0 := h.new hal
  obtain ⟨w0, hw0⟩ : ∃ u, w.alloc (.cells #[.int .i64 3, .int .i64 f, .int .i64 t, .int .i64 i, .int .i64 at_, .int .u8 (m.toNat : Int), .slice A l.length c] 47) = u := ⟨_, rfl⟩
  rw [hw0] at hal hbk hb0
  have fo := opAt hbk
  have fod := opAt hbk.drew
  have HBK := hide hbk
  have HB0 := hide hb0
  have HB0d : Hid (Both w0.drew B p q s d k) := hide (hb0.new (Below.refl _ _).drew)
  have HH := hide h
  have HAL := hide hal
  have HRD : Hid (RdB w0.drew Bb A l) := hide ((ho.rd.below (hal.mono (by omega))).drewN 1)
  have hBs : Bb ≤ w0.drew.heap.size := Nat.le_trans (by omega) hal.size
  have HN := hide hn; have HD := hide hd; have HAF := hide haf
  have hvv : (v == v) = true := beq_self_eq_true v
  clear h hal hbk hb0 hn hd haf ho
  have fS := (⟨fod.2.1, fod.2.2.1, fod.2.2.2.1⟩ : w0.drew.cell? ⟨w.heap.size, 1, none⟩ = some (.int .i64 f) ∧ w0.drew.cell? ⟨w.heap.size, 2, none⟩ = some (.int .i64 t) ∧ w0.drew.cell? ⟨w.heap.size, 3, none⟩ = some (.int .i64 i))
  go_enter Try.func21, Try.ntmps21
  go_upto_region 9 with fail
  go_region_held3 (fun u => u.cell? ⟨w.heap.size, 1, none⟩ = some (.int .i64 f) ∧ u.cell? ⟨w.heap.size, 2, none⟩ = some (.int .i64 t) ∧ u.cell? ⟨w.heap.size, 3, none⟩ = some (.int .i64 i)) (first | assumption | exact fS | exact fS1 | exact fS2 | go_keep)
    (first
      | (go_at_call 25; go_must ((refine (unhide HN _ (unhide HB0d).net (unhide HRD) hBs).mono ?_; rintro _ w1 ⟨s', rfl, hst, hF⟩; have hst' : NStep w0 w1 B p s s' := ⟨hst.at_, ⟨hst.only.os, hst.only.tape, hst.only.output, hst.only.size, hst.only.block⟩, hst.foot⟩; have HST := hide hst'; have HF := hide hF; have hdoc := (unhide HB0).docOf hst'; have HDOC := hide hdoc; have hk1 := (unhide HBK).only hst'.only (fun hf => Nat.lt_irrefl _ ((unhide HH).net.foot hf).2); have fo1 := opAt hk1; have HK1 := hide hk1; have fS1 := (⟨fo1.2.1, fo1.2.2.1, fo1.2.2.2.1⟩ : w1.cell? ⟨w.heap.size, 1, none⟩ = some (.int .i64 f) ∧ w1.cell? ⟨w.heap.size, 2, none⟩ = some (.int .i64 t) ∧ w1.cell? ⟨w.heap.size, 3, none⟩ = some (.int .i64 i)); have HRD1 := hide ((unhide HRD).below (w' := w1) ⟨(hst.below (unhide HB0d).net (unhide HB0d).net.base).os, (hst.below (unhide HB0d).net (unhide HB0d).net.base).tape, (hst.below (unhide HB0d).net (unhide HB0d).net.base).output, hst.only.size, fun g hg => (hst.below (unhide HB0d).net (unhide HB0d).net.base).block g (by omega)⟩); have hBs1 : Bb ≤ w1.heap.size := Nat.le_trans hBs hst.only.size; clear hst hF hst' hdoc hk1)))
      | (go_at_call 32; go_must ((refine (unhide HD _ (unhide HDOC) (unhide HRD1) hBs1).mono ?_; rintro _ w2 ⟨d', rfl, hst2, hG⟩; have HST2 := hide hst2; have HG := hide hG; have hk2 := (unhide HK1).only hst2.only (fun hf => Nat.lt_irrefl _ ((unhide HH).doc.foot hf).2); have fo2 := opAt hk2; have fS2 := (⟨fo2.2.1, fo2.2.2.1, fo2.2.2.2.1⟩ : w2.cell? ⟨w.heap.size, 1, none⟩ = some (.int .i64 f) ∧ w2.cell? ⟨w.heap.size, 2, none⟩ = some (.int .i64 t) ∧ w2.cell? ⟨w.heap.size, 3, none⟩ = some (.int .i64 i)); clear hk2 fo2; clear hst2 hG))))
  all_goals go_wp2_with fail
  all_goals
    go_ret
    obtain ⟨hb2, hs2⟩ := (unhide HB0).done (unhide HST) (unhide HST2) (unhide HAF _ _ (unhide HF) (unhide HG))
    exact ⟨by first | rfl | (rw [hvv]; rfl), _, _, hb2, hs2.of_new (unhide HAL), (unhide HAF _ _ (unhide HF) (unhide HG)).moved⟩
set_option maxHeartbeats 4000000 in
set_option maxRecDepth 20000 in
theorem do_twice (B p q Bb k : Nat) (s : NS) (d : DS) (f t i at_ : Int) (m : UInt8) (l : List UInt8) (A : Option Addr) (c : Nat) (w : World) (h : Both w B p q s d k) (ho : (NOp.mk 4 f t i at_ m l A c).Ok w Bb) (hBb : Bb ≤ B) (hl : l.length ≤ 4096) (hk : k ≤ 1000) :
    Calls Try.prog 21 #[.pointer (some ⟨p, 0, none⟩), .pointer (some ⟨q, 0, none⟩), .agg #[.int .i64 4, .int .i64 f, .int .i64 t, .int .i64 i, .int .i64 at_, .int .u8 (m.toNat : Int), .slice A l.length c]] w (DoneP w B p q k s d ⟨4, f, t, i, at_, m, l, A, c⟩) := by
  have hs : d.row.length ≤ 100000 := by have := h.rows; omega
  have hl0 : 0 ≤ s.lost := by rw [h.rel.lost]; exact h.lo
  have hl1 : s.lost ≤ 1000000 := by rw [h.rel.lost]; have := h.hi; omega
  have hBw := h.net.base
  obtain ⟨v, F, G, hn, hd, haf⟩ := pair_twice (B := B) (p := p) (q := q) (Bb := Bb) h.rel (o := ⟨4, f, t, i, at_, m, l, A, c⟩) rfl hs ho.lo ho.hi
  have hal : Below w.heap.size w (w.alloc (.cells #[.int .i64 4, .int .i64 f, .int .i64 t, .int .i64 i, .int .i64 at_, .int .u8 (m.toNat : Int), .slice A l.length c] 47)) := (Below.refl _ _).alloc (Nat.le_refl _) _
  have hbk := Blk.new w 47 #[.int .i64 4, .int .i64 f, .int .i64 t, .int .i64 i, .int .i64 at_, .int .u8 (m.toNat : Int), .slice A l.length c]
  have hb0 := h.new hal
  obtain ⟨w0, hw0⟩ : ∃ u, w.alloc (.cells #[.int .i64 4, .int .i64 f, .int .i64 t, .int .i64 i, .int .i64 at_, .int .u8 (m.toNat : Int), .slice A l.length c] 47) = u := ⟨_, rfl⟩
  rw [hw0] at hal hbk hb0
  have fo := opAt hbk
  have fod := opAt hbk.drew
  have HBK := hide hbk
  have HB0 := hide hb0
  have HB0d : Hid (Both w0.drew B p q s d k) := hide (hb0.new (Below.refl _ _).drew)
  have HH := hide h
  have HAL := hide hal
  have HRD : Hid (RdB w0.drew Bb A l) := hide ((ho.rd.below (hal.mono (by omega))).drewN 1)
  have hBs : Bb ≤ w0.drew.heap.size := Nat.le_trans (by omega) hal.size
  have HN := hide hn; have HD := hide hd; have HAF := hide haf
  have hvv : (v == v) = true := beq_self_eq_true v
  clear h hal hbk hb0 hn hd haf ho
  have fS := (⟨fod.2.1, fod.2.2.1, fod.2.2.2.1⟩ : w0.drew.cell? ⟨w.heap.size, 1, none⟩ = some (.int .i64 f) ∧ w0.drew.cell? ⟨w.heap.size, 2, none⟩ = some (.int .i64 t) ∧ w0.drew.cell? ⟨w.heap.size, 3, none⟩ = some (.int .i64 i))
  go_enter Try.func21, Try.ntmps21
  go_upto_region 11 with fail
  go_region_held3 (fun u => u.cell? ⟨w.heap.size, 1, none⟩ = some (.int .i64 f) ∧ u.cell? ⟨w.heap.size, 2, none⟩ = some (.int .i64 t) ∧ u.cell? ⟨w.heap.size, 3, none⟩ = some (.int .i64 i)) (first | assumption | exact fS | exact fS1 | exact fS2 | go_keep)
    (first
      | (go_at_call 14; go_must ((refine (unhide HN _ (unhide HB0d).net (unhide HRD) hBs).mono ?_; rintro _ w1 ⟨s', rfl, hst, hF⟩; have hst' : NStep w0 w1 B p s s' := ⟨hst.at_, ⟨hst.only.os, hst.only.tape, hst.only.output, hst.only.size, hst.only.block⟩, hst.foot⟩; have HST := hide hst'; have HF := hide hF; have hdoc := (unhide HB0).docOf hst'; have HDOC := hide hdoc; have hk1 := (unhide HBK).only hst'.only (fun hf => Nat.lt_irrefl _ ((unhide HH).net.foot hf).2); have fo1 := opAt hk1; have HK1 := hide hk1; have fS1 := (⟨fo1.2.1, fo1.2.2.1, fo1.2.2.2.1⟩ : w1.cell? ⟨w.heap.size, 1, none⟩ = some (.int .i64 f) ∧ w1.cell? ⟨w.heap.size, 2, none⟩ = some (.int .i64 t) ∧ w1.cell? ⟨w.heap.size, 3, none⟩ = some (.int .i64 i)); have HRD1 := hide ((unhide HRD).below (w' := w1) ⟨(hst.below (unhide HB0d).net (unhide HB0d).net.base).os, (hst.below (unhide HB0d).net (unhide HB0d).net.base).tape, (hst.below (unhide HB0d).net (unhide HB0d).net.base).output, hst.only.size, fun g hg => (hst.below (unhide HB0d).net (unhide HB0d).net.base).block g (by omega)⟩); have hBs1 : Bb ≤ w1.heap.size := Nat.le_trans hBs hst.only.size; clear hst hF hst' hdoc hk1)))
      | (go_at_call 33; go_must ((refine (unhide HD _ (unhide HDOC) (unhide HRD1) hBs1).mono ?_; rintro _ w2 ⟨d', rfl, hst2, hG⟩; have HST2 := hide hst2; have HG := hide hG; have hk2 := (unhide HK1).only hst2.only (fun hf => Nat.lt_irrefl _ ((unhide HH).doc.foot hf).2); have fo2 := opAt hk2; have fS2 := (⟨fo2.2.1, fo2.2.2.1, fo2.2.2.2.1⟩ : w2.cell? ⟨w.heap.size, 1, none⟩ = some (.int .i64 f) ∧ w2.cell? ⟨w.heap.size, 2, none⟩ = some (.int .i64 t) ∧ w2.cell? ⟨w.heap.size, 3, none⟩ = some (.int .i64 i)); clear hk2 fo2; clear hst2 hG))))
  all_goals go_wp2_with fail
  all_goals
    go_ret
    obtain ⟨hb2, hs2⟩ := (unhide HB0).done (unhide HST) (unhide HST2) (unhide HAF _ _ (unhide HF) (unhide HG))
    exact ⟨by first | rfl | (rw [hvv]; rfl), _, _, hb2, hs2.of_new (unhide HAL), (unhide HAF _ _ (unhide HF) (unhide HG)).moved⟩
set_option maxHeartbeats 4000000 in
set_option maxRecDepth 20000 in
theorem do_back (B p q Bb k : Nat) (s : NS) (d : DS) (f t i at_ : Int) (m : UInt8) (l : List UInt8) (A : Option Addr) (c : Nat) (w : World) (h : Both w B p q s d k) (ho : (NOp.mk 5 f t i at_ m l A c).Ok w Bb) (hBb : Bb ≤ B) (hl : l.length ≤ 4096) (hk : k ≤ 1000) :
    Calls Try.prog 21 #[.pointer (some ⟨p, 0, none⟩), .pointer (some ⟨q, 0, none⟩), .agg #[.int .i64 5, .int .i64 f, .int .i64 t, .int .i64 i, .int .i64 at_, .int .u8 (m.toNat : Int), .slice A l.length c]] w (DoneP w B p q k s d ⟨5, f, t, i, at_, m, l, A, c⟩) := by
  have hs : d.row.length ≤ 100000 := by have := h.rows; omega
  have hl0 : 0 ≤ s.lost := by rw [h.rel.lost]; exact h.lo
  have hl1 : s.lost ≤ 1000000 := by rw [h.rel.lost]; have := h.hi; omega
  have hBw := h.net.base
  obtain ⟨v, F, G, hn, hd, haf⟩ := pair_back (B := B) (p := p) (q := q) (Bb := Bb) h.rel (o := ⟨5, f, t, i, at_, m, l, A, c⟩) rfl hs ho.lo ho.hi
  have hal : Below w.heap.size w (w.alloc (.cells #[.int .i64 5, .int .i64 f, .int .i64 t, .int .i64 i, .int .i64 at_, .int .u8 (m.toNat : Int), .slice A l.length c] 47)) := (Below.refl _ _).alloc (Nat.le_refl _) _
  have hbk := Blk.new w 47 #[.int .i64 5, .int .i64 f, .int .i64 t, .int .i64 i, .int .i64 at_, .int .u8 (m.toNat : Int), .slice A l.length c]
  have hb0 := h.new hal
  obtain ⟨w0, hw0⟩ : ∃ u, w.alloc (.cells #[.int .i64 5, .int .i64 f, .int .i64 t, .int .i64 i, .int .i64 at_, .int .u8 (m.toNat : Int), .slice A l.length c] 47) = u := ⟨_, rfl⟩
  rw [hw0] at hal hbk hb0
  have fo := opAt hbk
  have fod := opAt hbk.drew
  have HBK := hide hbk
  have HB0 := hide hb0
  have HB0d : Hid (Both w0.drew B p q s d k) := hide (hb0.new (Below.refl _ _).drew)
  have HH := hide h
  have HAL := hide hal
  have HRD : Hid (RdB w0.drew Bb A l) := hide ((ho.rd.below (hal.mono (by omega))).drewN 1)
  have hBs : Bb ≤ w0.drew.heap.size := Nat.le_trans (by omega) hal.size
  have HN := hide hn; have HD := hide hd; have HAF := hide haf
  have hvv : (v == v) = true := beq_self_eq_true v
  clear h hal hbk hb0 hn hd haf ho
  have fS := (⟨fod.2.1, fod.2.2.1, fod.2.2.2.1⟩ : w0.drew.cell? ⟨w.heap.size, 1, none⟩ = some (.int .i64 f) ∧ w0.drew.cell? ⟨w.heap.size, 2, none⟩ = some (.int .i64 t) ∧ w0.drew.cell? ⟨w.heap.size, 3, none⟩ = some (.int .i64 i))
  go_enter Try.func21, Try.ntmps21
  go_upto_region 13 with fail
  go_region_held3 (fun u => u.cell? ⟨w.heap.size, 1, none⟩ = some (.int .i64 f) ∧ u.cell? ⟨w.heap.size, 2, none⟩ = some (.int .i64 t) ∧ u.cell? ⟨w.heap.size, 3, none⟩ = some (.int .i64 i)) (first | assumption | exact fS | exact fS1 | exact fS2 | go_keep)
    (first
      | (go_at_call 15; go_must ((refine (unhide HN _ (unhide HB0d).net (unhide HRD) hBs).mono ?_; rintro _ w1 ⟨s', rfl, hst, hF⟩; have hst' : NStep w0 w1 B p s s' := ⟨hst.at_, ⟨hst.only.os, hst.only.tape, hst.only.output, hst.only.size, hst.only.block⟩, hst.foot⟩; have HST := hide hst'; have HF := hide hF; have hdoc := (unhide HB0).docOf hst'; have HDOC := hide hdoc; have hk1 := (unhide HBK).only hst'.only (fun hf => Nat.lt_irrefl _ ((unhide HH).net.foot hf).2); have fo1 := opAt hk1; have HK1 := hide hk1; have fS1 := (⟨fo1.2.1, fo1.2.2.1, fo1.2.2.2.1⟩ : w1.cell? ⟨w.heap.size, 1, none⟩ = some (.int .i64 f) ∧ w1.cell? ⟨w.heap.size, 2, none⟩ = some (.int .i64 t) ∧ w1.cell? ⟨w.heap.size, 3, none⟩ = some (.int .i64 i)); have HRD1 := hide ((unhide HRD).below (w' := w1) ⟨(hst.below (unhide HB0d).net (unhide HB0d).net.base).os, (hst.below (unhide HB0d).net (unhide HB0d).net.base).tape, (hst.below (unhide HB0d).net (unhide HB0d).net.base).output, hst.only.size, fun g hg => (hst.below (unhide HB0d).net (unhide HB0d).net.base).block g (by omega)⟩); have hBs1 : Bb ≤ w1.heap.size := Nat.le_trans hBs hst.only.size; clear hst hF hst' hdoc hk1)))
      | (go_at_call 34; go_must ((refine (unhide HD _ (unhide HDOC) (unhide HRD1) hBs1).mono ?_; rintro _ w2 ⟨d', rfl, hst2, hG⟩; have HST2 := hide hst2; have HG := hide hG; have hk2 := (unhide HK1).only hst2.only (fun hf => Nat.lt_irrefl _ ((unhide HH).doc.foot hf).2); have fo2 := opAt hk2; have fS2 := (⟨fo2.2.1, fo2.2.2.1, fo2.2.2.2.1⟩ : w2.cell? ⟨w.heap.size, 1, none⟩ = some (.int .i64 f) ∧ w2.cell? ⟨w.heap.size, 2, none⟩ = some (.int .i64 t) ∧ w2.cell? ⟨w.heap.size, 3, none⟩ = some (.int .i64 i)); clear hk2 fo2; clear hst2 hG))))
  all_goals go_wp2_with fail
  all_goals
    go_ret
    obtain ⟨hb2, hs2⟩ := (unhide HB0).done (unhide HST) (unhide HST2) (unhide HAF _ _ (unhide HF) (unhide HG))
    exact ⟨by first | rfl | (rw [hvv]; rfl), _, _, hb2, hs2.of_new (unhide HAL), (unhide HAF _ _ (unhide HF) (unhide HG)).moved⟩
set_option maxHeartbeats 4000000 in
set_option maxRecDepth 20000 in
theorem do_spoil (B p q Bb k : Nat) (s : NS) (d : DS) (f t i at_ : Int) (m : UInt8) (l : List UInt8) (A : Option Addr) (c : Nat) (w : World) (h : Both w B p q s d k) (ho : (NOp.mk 6 f t i at_ m l A c).Ok w Bb) (hBb : Bb ≤ B) (hl : l.length ≤ 4096) (hk : k ≤ 1000) :
    Calls Try.prog 21 #[.pointer (some ⟨p, 0, none⟩), .pointer (some ⟨q, 0, none⟩), .agg #[.int .i64 6, .int .i64 f, .int .i64 t, .int .i64 i, .int .i64 at_, .int .u8 (m.toNat : Int), .slice A l.length c]] w (DoneP w B p q k s d ⟨6, f, t, i, at_, m, l, A, c⟩) := by
  have hs : d.row.length ≤ 100000 := by have := h.rows; omega
  have hl0 : 0 ≤ s.lost := by rw [h.rel.lost]; exact h.lo
  have hl1 : s.lost ≤ 1000000 := by rw [h.rel.lost]; have := h.hi; omega
  have hBw := h.net.base
  obtain ⟨v, F, G, hn, hd, haf⟩ := pair_spoil (B := B) (p := p) (q := q) (Bb := Bb) h.rel (o := ⟨6, f, t, i, at_, m, l, A, c⟩) rfl hs ho.lo ho.hi
  have hal : Below w.heap.size w (w.alloc (.cells #[.int .i64 6, .int .i64 f, .int .i64 t, .int .i64 i, .int .i64 at_, .int .u8 (m.toNat : Int), .slice A l.length c] 47)) := (Below.refl _ _).alloc (Nat.le_refl _) _
  have hbk := Blk.new w 47 #[.int .i64 6, .int .i64 f, .int .i64 t, .int .i64 i, .int .i64 at_, .int .u8 (m.toNat : Int), .slice A l.length c]
  have hb0 := h.new hal
  obtain ⟨w0, hw0⟩ : ∃ u, w.alloc (.cells #[.int .i64 6, .int .i64 f, .int .i64 t, .int .i64 i, .int .i64 at_, .int .u8 (m.toNat : Int), .slice A l.length c] 47) = u := ⟨_, rfl⟩
  rw [hw0] at hal hbk hb0
  have fo := opAt hbk
  have fod := opAt hbk.drew
  have HBK := hide hbk
  have HB0 := hide hb0
  have HB0d : Hid (Both w0.drew B p q s d k) := hide (hb0.new (Below.refl _ _).drew)
  have HH := hide h
  have HAL := hide hal
  have HRD : Hid (RdB w0.drew Bb A l) := hide ((ho.rd.below (hal.mono (by omega))).drewN 1)
  have hBs : Bb ≤ w0.drew.heap.size := Nat.le_trans (by omega) hal.size
  have HN := hide hn; have HD := hide hd; have HAF := hide haf
  have hvv : (v == v) = true := beq_self_eq_true v
  clear h hal hbk hb0 hn hd haf ho
  have fS := (⟨fod.2.1, fod.2.2.1, fod.2.2.2.1, fod.2.2.2.2.1, fod.2.2.2.2.2.1⟩ : w0.drew.cell? ⟨w.heap.size, 1, none⟩ = some (.int .i64 f) ∧ w0.drew.cell? ⟨w.heap.size, 2, none⟩ = some (.int .i64 t) ∧ w0.drew.cell? ⟨w.heap.size, 3, none⟩ = some (.int .i64 i) ∧ w0.drew.cell? ⟨w.heap.size, 4, none⟩ = some (.int .i64 at_) ∧ w0.drew.cell? ⟨w.heap.size, 5, none⟩ = some (.int .u8 (m.toNat : Int)))
  go_enter Try.func21, Try.ntmps21
  go_upto_region 15 with fail
  go_region_held3 (fun u => u.cell? ⟨w.heap.size, 1, none⟩ = some (.int .i64 f) ∧ u.cell? ⟨w.heap.size, 2, none⟩ = some (.int .i64 t) ∧ u.cell? ⟨w.heap.size, 3, none⟩ = some (.int .i64 i) ∧ u.cell? ⟨w.heap.size, 4, none⟩ = some (.int .i64 at_) ∧ u.cell? ⟨w.heap.size, 5, none⟩ = some (.int .u8 (m.toNat : Int))) (first | assumption | exact fS | exact fS1 | exact fS2 | go_keep)
    (first
      | (go_at_call 16; go_must ((refine (unhide HN _ (unhide HB0d).net (unhide HRD) hBs).mono ?_; rintro _ w1 ⟨s', rfl, hst, hF⟩; have hst' : NStep w0 w1 B p s s' := ⟨hst.at_, ⟨hst.only.os, hst.only.tape, hst.only.output, hst.only.size, hst.only.block⟩, hst.foot⟩; have HST := hide hst'; have HF := hide hF; have hdoc := (unhide HB0).docOf hst'; have HDOC := hide hdoc; have hk1 := (unhide HBK).only hst'.only (fun hf => Nat.lt_irrefl _ ((unhide HH).net.foot hf).2); have fo1 := opAt hk1; have HK1 := hide hk1; have fS1 := (⟨fo1.2.1, fo1.2.2.1, fo1.2.2.2.1, fo1.2.2.2.2.1, fo1.2.2.2.2.2.1⟩ : w1.cell? ⟨w.heap.size, 1, none⟩ = some (.int .i64 f) ∧ w1.cell? ⟨w.heap.size, 2, none⟩ = some (.int .i64 t) ∧ w1.cell? ⟨w.heap.size, 3, none⟩ = some (.int .i64 i) ∧ w1.cell? ⟨w.heap.size, 4, none⟩ = some (.int .i64 at_) ∧ w1.cell? ⟨w.heap.size, 5, none⟩ = some (.int .u8 (m.toNat : Int))); have HRD1 := hide ((unhide HRD).below (w' := w1) ⟨(hst.below (unhide HB0d).net (unhide HB0d).net.base).os, (hst.below (unhide HB0d).net (unhide HB0d).net.base).tape, (hst.below (unhide HB0d).net (unhide HB0d).net.base).output, hst.only.size, fun g hg => (hst.below (unhide HB0d).net (unhide HB0d).net.base).block g (by omega)⟩); have hBs1 : Bb ≤ w1.heap.size := Nat.le_trans hBs hst.only.size; clear hst hF hst' hdoc hk1)))
      | (go_at_call 35; go_must ((refine (unhide HD _ (unhide HDOC) (unhide HRD1) hBs1).mono ?_; rintro _ w2 ⟨d', rfl, hst2, hG⟩; have HST2 := hide hst2; have HG := hide hG; have hk2 := (unhide HK1).only hst2.only (fun hf => Nat.lt_irrefl _ ((unhide HH).doc.foot hf).2); have fo2 := opAt hk2; have fS2 := (⟨fo2.2.1, fo2.2.2.1, fo2.2.2.2.1, fo2.2.2.2.2.1, fo2.2.2.2.2.2.1⟩ : w2.cell? ⟨w.heap.size, 1, none⟩ = some (.int .i64 f) ∧ w2.cell? ⟨w.heap.size, 2, none⟩ = some (.int .i64 t) ∧ w2.cell? ⟨w.heap.size, 3, none⟩ = some (.int .i64 i) ∧ w2.cell? ⟨w.heap.size, 4, none⟩ = some (.int .i64 at_) ∧ w2.cell? ⟨w.heap.size, 5, none⟩ = some (.int .u8 (m.toNat : Int))); clear hk2 fo2; clear hst2 hG))))
  all_goals go_wp2_with fail
  all_goals
    go_ret
    obtain ⟨hb2, hs2⟩ := (unhide HB0).done (unhide HST) (unhide HST2) (unhide HAF _ _ (unhide HF) (unhide HG))
    exact ⟨by first | rfl | (rw [hvv]; rfl), _, _, hb2, hs2.of_new (unhide HAL), (unhide HAF _ _ (unhide HF) (unhide HG)).moved⟩
end Go.Proofs.Ytbclfiollfagmaa
