/- One call of both nets, answered by a packet. -/
import Derived.Test.YtbclfiollfagmaaNetDoAll
namespace Go.Proofs.Ytbclfiollfagmaa
set_option linter.unusedVariables false
open Go.RowKit

set_option maxHeartbeats 4000000 in
set_option maxRecDepth 20000 in
theorem do_take (B p q Bb k : Nat) (s : NS) (d : DS) (f t i at_ : Int) (m : UInt8) (l : List UInt8) (A : Option Addr) (c : Nat) (w : World) (h : Both w B p q s d k) (ho : (NOp.mk 2 f t i at_ m l A c).Ok w Bb) (hBb : Bb ≤ B) (hk : k ≤ 1000) :
    Calls Try.prog 21 #[.pointer (some ⟨p, 0, none⟩), .pointer (some ⟨q, 0, none⟩), .agg #[.int .i64 2, .int .i64 f, .int .i64 t, .int .i64 i, .int .i64 at_, .int .u8 (m.toNat : Int), .slice A l.length c]] w (DoneP w B p q k s d ⟨2, f, t, i, at_, m, l, A, c⟩) := by
  have hs : d.row.length ≤ 100000 := by have := h.rows; omega
  have hl0 : 0 ≤ s.lost := by rw [h.rel.lost]; exact h.lo
  have hl1 : s.lost ≤ 1000000 := by rw [h.rel.lost]; have := h.hi; omega
  have hBw := h.net.base
  obtain ⟨lx, sp, er, F, G, hn, hd, haf⟩ := pair_take (B := B) (p := p) (q := q) h.rel (o := ⟨2, f, t, i, at_, m, l, A, c⟩) rfl hs ho.lo ho.hi
  have hal : Below w.heap.size w (w.alloc (.cells #[.int .i64 2, .int .i64 f, .int .i64 t, .int .i64 i, .int .i64 at_, .int .u8 (m.toNat : Int), .slice A l.length c] 47)) := (Below.refl _ _).alloc (Nat.le_refl _) _
  have hbk := Blk.new w 47 #[.int .i64 2, .int .i64 f, .int .i64 t, .int .i64 i, .int .i64 at_, .int .u8 (m.toNat : Int), .slice A l.length c]
  have hb0 := h.new hal
  obtain ⟨w0, hw0⟩ : ∃ u, w.alloc (.cells #[.int .i64 2, .int .i64 f, .int .i64 t, .int .i64 i, .int .i64 at_, .int .u8 (m.toNat : Int), .slice A l.length c] 47) = u := ⟨_, rfl⟩
  rw [hw0] at hal hbk hb0
  have fo := opAt hbk
  have fod := opAt hbk.drew
  have HBK := hide hbk
  have HB0 := hide hb0
  have HB0d : Hid (Both w0.drew B p q s d k) := hide (hb0.new (Below.refl _ _).drew)
  have HH := hide h
  have HAL := hide hal
  have HN := hide hn; have HD := hide hd; have HAF := hide haf
  have hvv : (er == er) = true := beq_self_eq_true er
  have hww : (sp == sp) = true := beq_self_eq_true sp
  clear h hal hbk hb0 hn hd haf ho
  have HSM := hide (fun (u : World) (A2 A4 : Option Addr) (c2 c4 : Nat) (h1 : RdB u u.heap.size A2 lx) (h2 : RdB u u.heap.size A4 lx) => same_any lx lx A2 A4 c2 c4 u.heap.size u.heap.size u h1 h2)
  go_enter Try.func21, Try.ntmps21
  go_wp2_with (first
    | (go_at_call 18; refine (unhide HN _ (unhide HB0).net).mono ?_; rintro _ w1 ⟨s', A2, c2, rfl, hst, hown, hF⟩
       have HST := hide hst; have HF := hide hF; have HO1 := hide (hown.alloc (.cells #[.slice none 0 0, .bool false] 36)); have HOL := hide (fun k hk => (hown.lt k hk).2); have HOG := hide (fun k hk => (hown.lt k hk).1)
       have HBK1 := hide ((unhide HBK).only hst.only (fun hf => Nat.lt_irrefl _ ((unhide HH).net.foot hf).2)); have HM1 := hide ((Mem.start w1).new (t := 36) (cs := #[.slice none 0 0, .bool false]) w1.heap.size rfl); clear hst hown hF)
    | (refine wpList_store_blk rfl 36 (.tmp 7) (.tmp 47) rfl (w1.heap.size) _ (by rfl) (by rfl) 36 _ (unhide HM1).blk0 (by kernel_rfl) (by rfl) (by simp [Value.oneCell']) ?_; intro w2 hbS hgS; have HM2 := hide ((unhide HM1).grown0 hbS hgS); have HGw2 := hide hgS; clear hbS hgS
       have HO2 := hide ((unhide HO1).kept (unhide HGw2) (.inr fun e => Nat.lt_irrefl _ ((unhide HOL) _ e))); have HBK2 := hide ((unhide HBK1).below (unhide HM2).below (unhide HBK1).lt); have fo2 := opAt (unhide HBK2)
       have HDOC2 := hide (((unhide HB0).docOf (unhide HST)).new (unhide HM2).below))
    | (go_at_call 31; refine (unhide HD _ (unhide HDOC2)).mono ?_; rintro _ w3 ⟨d', A4, c4, xf, xt, rfl, hst2, hown2, hG⟩
       have hs01 := (unhide HST).only.size; have HST2 := hide hst2; have HG := hide hG
       have HK3 := hide ((unhide HM2).blk0.only hst2.only (fun hf => by have := ((unhide HB0).doc.foot hf).2; omega)); have HO3 := hide (own_only (unhide HO2) hst2.only (fun g hg hf => by have h1 := ((unhide HB0).doc.foot hf).2; have h2 := (unhide HOG) g hg; omega))
       have HM3 := hide ((Mem.start w3).new (t := 68) (cs := #[.int .i64 0, .int .i64 0, .slice none 0 0, .bool false]) w3.heap.size rfl)
       have HP3 := hide (hown2.alloc (.cells #[.int .i64 0, .int .i64 0, .slice none 0 0, .bool false] 68)); have HPL := hide (fun k hk => (hown2.lt k hk).2); clear hst2 hown2 hG)
    | (refine wpList_store_blk rfl 68 (.tmp 9) (.tmp 58) rfl (w3.heap.size) _ (by rfl) (by rfl) 68 _ (unhide HM3).blk0 (by kernel_rfl) (by rfl) (by simp [Value.oneCell']) ?_; intro w4 hbS hgS; have HM4 := hide ((unhide HM3).grown0 hbS hgS); have HGw4 := hide hgS; clear hbS hgS
       have fp4 := pkAt ((unhide HK3).below (unhide HM4).below (unhide HK3).lt); have fq4 := dpkAt (unhide HM4).blk0
       have HR2 := hide (RdB.of_own ((unhide HP3).kept (unhide HGw4) (.inr fun e => Nat.lt_irrefl _ ((unhide HPL) _ e)))); have HR1 := hide (RdB.of_own (own_only (unhide HO3) (Only.of_new (S := fun _ => False) (unhide HM4).below) (fun _ _ h => h))))
    | (go_at_call 19; refine (unhide HSM _ _ _ _ _ (unhide HR1) (unhide HR2)).mono ?_; rintro _ w5 ⟨rfl, rfl⟩; rw [beq_self_eq_true]))
  go_ret
  have haf := unhide HAF _ _ (unhide HF) (unhide HG)
  obtain ⟨hb2, hs2⟩ := (unhide HB0).done ((unhide HST).trans (NStep.of_new (unhide HST).at_ (unhide HM2).below)) (unhide HST2) haf
  obtain ⟨hb3, hs3⟩ := hb2.beside hs2 (unhide HM4).below
  exact ⟨rfl, _, _, hb3, hs3.of_new (unhide HAL), haf.moved⟩
set_option maxHeartbeats 4000000 in
set_option maxRecDepth 20000 in
theorem do_look (B p q Bb k : Nat) (s : NS) (d : DS) (kd f t i at_ : Int) (m : UInt8) (l : List UInt8) (A : Option Addr) (c : Nat) (w : World) (h : Both w B p q s d k) (ho : (NOp.mk kd f t i at_ m l A c).Ok w Bb) (hBb : Bb ≤ B) (hk : k ≤ 1000) (hkd : kd ≠ 1 ∧ kd ≠ 2 ∧ kd ≠ 3 ∧ kd ≠ 4 ∧ kd ≠ 5 ∧ kd ≠ 6) :
    Calls Try.prog 21 #[.pointer (some ⟨p, 0, none⟩), .pointer (some ⟨q, 0, none⟩), .agg #[.int .i64 kd, .int .i64 f, .int .i64 t, .int .i64 i, .int .i64 at_, .int .u8 (m.toNat : Int), .slice A l.length c]] w (DoneP w B p q k s d ⟨kd, f, t, i, at_, m, l, A, c⟩) := by
  have hs : d.row.length ≤ 100000 := by have := h.rows; omega
  have hl0 : 0 ≤ s.lost := by rw [h.rel.lost]; exact h.lo
  have hl1 : s.lost ≤ 1000000 := by rw [h.rel.lost]; have := h.hi; omega
  have hBw := h.net.base
  obtain ⟨lx, sp, er, F, G, hn, hd, haf⟩ := pair_look (B := B) (p := p) (q := q) h.rel (o := ⟨kd, f, t, i, at_, m, l, A, c⟩) hkd hs ho.lo ho.hi
  obtain ⟨k1, k2, k3, k4, k5, k6⟩ := hkd
  have e1 : (kd == 1) = false := beq_eq_false_iff_ne.2 k1
  have e2 : (kd == 2) = false := beq_eq_false_iff_ne.2 k2
  have e3 : (kd == 3) = false := beq_eq_false_iff_ne.2 k3
  have e4 : (kd == 4) = false := beq_eq_false_iff_ne.2 k4
  have e5 : (kd == 5) = false := beq_eq_false_iff_ne.2 k5
  have e6 : (kd == 6) = false := beq_eq_false_iff_ne.2 k6
  clear k1 k2 k3 k4 k5 k6
  have hal : Below w.heap.size w (w.alloc (.cells #[.int .i64 kd, .int .i64 f, .int .i64 t, .int .i64 i, .int .i64 at_, .int .u8 (m.toNat : Int), .slice A l.length c] 47)) := (Below.refl _ _).alloc (Nat.le_refl _) _
  have hbk := Blk.new w 47 #[.int .i64 kd, .int .i64 f, .int .i64 t, .int .i64 i, .int .i64 at_, .int .u8 (m.toNat : Int), .slice A l.length c]
  have hb0 := h.new hal
  obtain ⟨w0, hw0⟩ : ∃ u, w.alloc (.cells #[.int .i64 kd, .int .i64 f, .int .i64 t, .int .i64 i, .int .i64 at_, .int .u8 (m.toNat : Int), .slice A l.length c] 47) = u := ⟨_, rfl⟩
  rw [hw0] at hal hbk hb0
  have fo := opAt hbk
  have fod := opAt hbk.drew
  have HBK := hide hbk
  have HB0 := hide hb0
  have HB0d : Hid (Both w0.drew B p q s d k) := hide (hb0.new (Below.refl _ _).drew)
  have HH := hide h
  have HAL := hide hal
  have HN := hide hn; have HD := hide hd; have HAF := hide haf
  have hvv : (er == er) = true := beq_self_eq_true er
  have hww : (sp == sp) = true := beq_self_eq_true sp
  clear h hal hbk hb0 hn hd haf ho
  have HSM := hide (fun (u : World) (A2 A4 : Option Addr) (c2 c4 : Nat) (h1 : RdB u u.heap.size A2 lx) (h2 : RdB u u.heap.size A4 lx) => same_any lx lx A2 A4 c2 c4 u.heap.size u.heap.size u h1 h2)
  go_enter Try.func21, Try.ntmps21
  go_wp2_with (first
    | (go_at_call 17; refine (unhide HN _ (unhide HB0).net).mono ?_; rintro _ w1 ⟨s', A2, c2, rfl, hst, hown, hF⟩
       have HST := hide hst; have HF := hide hF; have HO1 := hide (hown.alloc (.cells #[.slice none 0 0, .bool false] 36)); have HOL := hide (fun k hk => (hown.lt k hk).2); have HOG := hide (fun k hk => (hown.lt k hk).1)
       have HBK1 := hide ((unhide HBK).only hst.only (fun hf => Nat.lt_irrefl _ ((unhide HH).net.foot hf).2)); have HM1 := hide ((Mem.start w1).new (t := 36) (cs := #[.slice none 0 0, .bool false]) w1.heap.size rfl); clear hst hown hF)
    | (refine wpList_store_blk rfl 36 (.tmp 11) (.tmp 170) rfl (w1.heap.size) _ (by rfl) (by rfl) 36 _ (unhide HM1).blk0 (by kernel_rfl) (by rfl) (by simp [Value.oneCell']) ?_; intro w2 hbS hgS; have HM2 := hide ((unhide HM1).grown0 hbS hgS); have HGw2 := hide hgS; clear hbS hgS
       have HO2 := hide ((unhide HO1).kept (unhide HGw2) (.inr fun e => Nat.lt_irrefl _ ((unhide HOL) _ e))); have HBK2 := hide ((unhide HBK1).below (unhide HM2).below (unhide HBK1).lt); have fo2 := opAt (unhide HBK2)
       have HDOC2 := hide (((unhide HB0).docOf (unhide HST)).new (unhide HM2).below))
    | (go_at_call 36; refine (unhide HD _ (unhide HDOC2)).mono ?_; rintro _ w3 ⟨d', A4, c4, xf, xt, rfl, hst2, hown2, hG⟩
       have hs01 := (unhide HST).only.size; have HST2 := hide hst2; have HG := hide hG
       have HK3 := hide ((unhide HM2).blk0.only hst2.only (fun hf => by have := ((unhide HB0).doc.foot hf).2; omega)); have HO3 := hide (own_only (unhide HO2) hst2.only (fun g hg hf => by have h1 := ((unhide HB0).doc.foot hf).2; have h2 := (unhide HOG) g hg; omega))
       have HM3 := hide ((Mem.start w3).new (t := 68) (cs := #[.int .i64 0, .int .i64 0, .slice none 0 0, .bool false]) w3.heap.size rfl)
       have HP3 := hide (hown2.alloc (.cells #[.int .i64 0, .int .i64 0, .slice none 0 0, .bool false] 68)); have HPL := hide (fun k hk => (hown2.lt k hk).2); clear hst2 hown2 hG)
    | (refine wpList_store_blk rfl 68 (.tmp 13) (.tmp 181) rfl (w3.heap.size) _ (by rfl) (by rfl) 68 _ (unhide HM3).blk0 (by kernel_rfl) (by rfl) (by simp [Value.oneCell']) ?_; intro w4 hbS hgS; have HM4 := hide ((unhide HM3).grown0 hbS hgS); have HGw4 := hide hgS; clear hbS hgS
       have fp4 := pkAt ((unhide HK3).below (unhide HM4).below (unhide HK3).lt); have fq4 := dpkAt (unhide HM4).blk0
       have HR2 := hide (RdB.of_own ((unhide HP3).kept (unhide HGw4) (.inr fun e => Nat.lt_irrefl _ ((unhide HPL) _ e)))); have HR1 := hide (RdB.of_own (own_only (unhide HO3) (Only.of_new (S := fun _ => False) (unhide HM4).below) (fun _ _ h => h))))
    | (go_at_call 19; refine (unhide HSM _ _ _ _ _ (unhide HR1) (unhide HR2)).mono ?_; rintro _ w5 ⟨rfl, rfl⟩; rw [beq_self_eq_true]))
  go_ret
  have haf := unhide HAF _ _ (unhide HF) (unhide HG)
  obtain ⟨hb2, hs2⟩ := (unhide HB0).done ((unhide HST).trans (NStep.of_new (unhide HST).at_ (unhide HM2).below)) (unhide HST2) haf
  obtain ⟨hb3, hs3⟩ := hb2.beside hs2 (unhide HM4).below
  exact ⟨rfl, _, _, hb3, hs3.of_new (unhide HAL), haf.moved⟩
theorem do_any (B p q Bb k : Nat) (s : NS) (d : DS) (o : NOp) (w : World) (h : Both w B p q s d k) (ho : o.Ok w Bb) (hBb : Bb ≤ B) (hl : o.l.length ≤ 4096) (hk : k ≤ 1000) :
    Calls Try.prog 21 #[.pointer (some ⟨p, 0, none⟩), .pointer (some ⟨q, 0, none⟩), .agg o.cells.toArray] w (DoneP w B p q k s d o) := by
  obtain ⟨kd, f, t, i, at_, m, l, A, c⟩ := o
  by_cases k1 : kd = 1
  · subst k1; exact do_send B p q Bb k s d f t i at_ m l A c w h ho hBb hl hk
  by_cases k2 : kd = 2
  · subst k2; exact do_take B p q Bb k s d f t i at_ m l A c w h ho hBb hk
  by_cases k3 : kd = 3
  · subst k3; exact do_lose B p q Bb k s d f t i at_ m l A c w h ho hBb hl hk
  by_cases k4 : kd = 4
  · subst k4; exact do_twice B p q Bb k s d f t i at_ m l A c w h ho hBb hl hk
  by_cases k5 : kd = 5
  · subst k5; exact do_back B p q Bb k s d f t i at_ m l A c w h ho hBb hl hk
  by_cases k6 : kd = 6
  · subst k6; exact do_spoil B p q Bb k s d f t i at_ m l A c w h ho hBb hl hk
  exact do_look B p q Bb k s d kd f t i at_ m l A c w h ho hBb hk ⟨k1, k2, k3, k4, k5, k6⟩
end Go.Proofs.Ytbclfiollfagmaa
