/- The document's First. -/
import Derived.Test.YtjlmcjegfbnhpaaFrmFirst
namespace Go.Proofs.Ytjlmcjegfbnhpaa
set_option linter.unusedVariables false
open Go.RowKit

theorem refTakeFixed4 (l : List UInt8) (A : Option Addr) (n c B : Nat) (w : World) (hr : RdB w B A l) (hn : l.length = n) (hc : n ≤ c) (hl : c ≤ 9223372036854775807) (h4 : 4 ≤ n) :
    Calls Try.prog 29 #[.slice A n c, .int .i64 4] w fun e w' => e = .returned (.tuple #[.int .u64 (Num.tf 0 (l.take 4) : Int), .int .i64 0]) ∧ w = w' := by
  subst hn
  have h := refTakeFixed_any l A c B 4 w hr hc hl (by omega) (by omega)
  rwa [show Num.takeFixed l 4 = (Num.tf 0 (l.take 4), 0) from Num.takeFixed_ok (w := 4) (by omega) (by omega) h4] at h
set_option maxHeartbeats 1000000 in
theorem word_any (b : List UInt8) (ad : Addr) (c B at' : Nat) (w : World) (hr : RdB w B (some ad) b) (hc : b.length ≤ c) (hl : c ≤ 9223372036854775807) (h4 : at' + 4 ≤ b.length) :
    Calls Try.prog 25 #[.slice (some ad) b.length c, .int .i64 (at' : Int)] w fun e w' => e = .returned (.int .i64 (Frm.word b at' : Int)) ∧ w = w' := by
  have HT := hide (refTakeFixed4 (b.drop at') (some (ad.add at')) (b.length - at') (c - at') B w (hr.off at') (by simp) (by omega) (by omega) (by omega))
  have hwl := Frm.word_lt b at'
  rw [show Num.tf 0 ((b.drop at').take 4) = Frm.word b at' from rfl] at HT
  generalize Frm.word b at' = x at HT hwl
  have s2 : (at' : Int) ≤ (b.length : Int) := by omega
  have s3 : (at' : Int) ≤ (c : Int) := by omega
  have s4 : ¬ c = at' := by omega
  go_enter Try.func25, Try.ntmps25
  go_wp2_with (go_at_call 29; refine (unhide HT).mono ?_; rintro _ w' ⟨rfl, rfl⟩)
  go_ret
  exact ⟨rfl, rfl⟩
theorem refMore0 (l : List UInt8) (A : Option Addr) (n c B : Nat) (w : World) (hr : RdB w B A l) (hn : l.length = n) (hl : n ≤ 140737488351232) :
    Calls Try.prog 22 #[.int .u32 0, .slice A n c] w fun e w' => e = .returned (.int .u32 ((Crc.more 0#32 l).toNat : Int)) ∧ w = w' := by
  subst hn
  exact ref_more_any 0#32 l A c B w hr (by unfold maxLen; omega)
theorem Frm.byte_eq {u : UInt8} {m : Nat} (h : (u.toNat : Int) = (m : Int) % 256) : u = UInt8.ofNat m := UInt8.toNat_inj.1 (by rw [UInt8.toNat_ofNat']; omega)
theorem Frm.byte_is {u : UInt8} {m : Nat} (h : u = UInt8.ofNat m) : (u.toNat : Int) = (m : Int) % 256 := by rw [h, UInt8.toNat_ofNat']; omega

set_option maxHeartbeats 1000000 in
set_option maxRecDepth 20000 in
theorem refFirst_any (b : List UInt8) (A : Option Addr) (c B : Nat) (w : World) (hr : RdB w B A b) (hB : B ≤ w.heap.size) (hlc : b.length ≤ c) (hc : c ≤ 9223372036854775807) :
    Calls Try.prog 18 #[.slice A b.length c] w (FreshF w (Frm.first b)) := by
  obtain ⟨i0, hi, hz0, hz1, hz2⟩ := info_parts u8info
  have hk := Frm.kind b
  generalize Frm.first b = res at hk ⊢
  obtain ⟨W, hW⟩ : ∃ W, w.alloc (.cells #[.int .i64 0, .int .i64 0, .int .i64 0, .int .i64 0, .slice none 0 0] 24) = W := ⟨_, rfl⟩
  have HM0 : Hid (Mem w W [(w.heap.size, 24, Frm.cells 0 0 0 0 (.slice none 0 0))]) := hide (by rw [← hW]; exact (Mem.start w).new w.heap.size rfl)
  have hws : W.heap.size = w.heap.size + 1 := by rw [← hW]; simp
  have hrW := hr.below ((unhide HM0).below.mono hB)
  cases hk with
  | nil hb =>
    subst hb
    go_enter Try.func18, Try.ntmps18
    go_wp2_with (refine wpList_store_blk rfl 24 (.tmp 2) (.tmp 10) rfl (w.heap.size) _ (by rfl) (by rfl) 24 _ (unhide HM0).blk0 (by kernel_rfl) (by rfl) (Frm.cells_one 0 0 0 0 none 0 0) ?_; intro w1 hbS hgS; have HM1 := hide ((unhide HM0).grown0 hbS hgS); have HGw1 := hide hgS; clear hbS hgS)
    exact ret_frame rfl w.heap.size _ rfl (by rfl) (unhide HM1).blk0 (by rfl) (by exact freshF_zero (unhide HM1).below 2)
  | form v r hb h0 =>
    obtain ⟨ad, rfl, _, hcl⟩ := hrW (by rw [hb]; simp)
    have c0 : W.cell? ad = some (.int .u8 0) := (hcl 0 v (by rw [hb]; rfl)).trans (by simp only [Bv]; rw [h0]; rfl)
    have hp : 0 < b.length := by rw [hb]; simp
    clear hb hcl
    go_enter Try.func18, Try.ntmps18
    go_wp2_with (refine wpList_store_blk rfl 24 (.tmp 2) (.tmp 15) rfl (w.heap.size) _ (by rfl) (by rfl) 24 _ (unhide HM0).blk0 (by kernel_rfl) (by rfl) (Frm.cells_one 0 0 0 0 none 0 0) ?_; intro w1 hbS hgS; have HM1 := hide ((unhide HM0).grown0 hbS hgS); have HGw1 := hide hgS; clear hbS hgS)
    exact ret_frame rfl w.heap.size _ rfl (by rfl) (unhide HM1).blk0 (by rfl) (by exact freshF_zero (unhide HM1).below 3)
  | short v r hb h0 h1 =>
    obtain ⟨ad, rfl, _, hcl⟩ := hrW (by rw [hb]; simp)
    have c0 : W.cell? ad = some (.int .u8 (v.toNat : Int)) := hcl 0 v (by rw [hb]; rfl)
    have hp : 0 < b.length := by rw [hb]; simp
    have hv : ((v.toNat : Int) == 0) = false := beq_eq_false_iff_ne.2 (by omega)
    clear hb hcl
    go_enter Try.func18, Try.ntmps18
    go_wp2_with (refine wpList_store_blk rfl 24 (.tmp 2) (.tmp 19) rfl (w.heap.size) _ (by rfl) (by rfl) 24 _ (unhide HM0).blk0 (by kernel_rfl) (by rfl) (Frm.cells_one 0 0 0 0 none 0 0) ?_; intro w1 hbS hgS; have HM1 := hide ((unhide HM0).grown0 hbS hgS); have HGw1 := hide hgS; clear hbS hgS)
    exact ret_frame rfl w.heap.size _ rfl (by rfl) (unhide HM1).blk0 (by rfl) (by exact freshF_zero (unhide HM1).below 2)
  | long v r hb h0 h1 h2 =>
    obtain ⟨ad, rfl, _, hcl⟩ := hrW (by rw [hb]; simp)
    have c0 : W.cell? ad = some (.int .u8 (v.toNat : Int)) := hcl 0 v (by rw [hb]; rfl)
    have hp : 0 < b.length := by rw [hb]; simp
    have hv : ((v.toNat : Int) == 0) = false := beq_eq_false_iff_ne.2 (by omega)
    have HW := hide (word_any b ad c B 13 W hrW hlc hc (by omega))
    clear hb hcl
    go_enter Try.func18, Try.ntmps18
    go_wp2_with (first
      | (go_at_call 25; refine (unhide HW).mono ?_; rintro _ w' ⟨rfl, rfl⟩)
      | (refine wpList_store_blk rfl 24 (.tmp 2) (.tmp 24) rfl (w.heap.size) _ (by rfl) (by rfl) 24 _ (unhide HM0).blk0 (by kernel_rfl) (by rfl) (Frm.cells_one 0 0 0 0 none 0 0) ?_; intro w1 hbS hgS; have HM1 := hide ((unhide HM0).grown0 hbS hgS); have HGw1 := hide hgS; clear hbS hgS))
    exact ret_frame rfl w.heap.size _ rfl (by rfl) (unhide HM1).blk0 (by rfl) (by exact freshF_zero (unhide HM1).below 6)
  | cut v r hb h0 h1 h2 h3 =>
    obtain ⟨ad, rfl, _, hcl⟩ := hrW (by rw [hb]; simp)
    have c0 : W.cell? ad = some (.int .u8 (v.toNat : Int)) := hcl 0 v (by rw [hb]; rfl)
    have hp : 0 < b.length := by rw [hb]; simp
    have hv : ((v.toNat : Int) == 0) = false := beq_eq_false_iff_ne.2 (by omega)
    have HW := hide (word_any b ad c B 13 W hrW hlc hc (by omega))
    clear hb hcl
    go_enter Try.func18, Try.ntmps18
    go_wp2_with (first
      | (go_at_call 25; refine (unhide HW).mono ?_; rintro _ w' ⟨rfl, rfl⟩)
      | (refine wpList_store_blk rfl 24 (.tmp 2) (.tmp 30) rfl (w.heap.size) _ (by rfl) (by rfl) 24 _ (unhide HM0).blk0 (by kernel_rfl) (by rfl) (Frm.cells_one 0 0 0 0 none 0 0) ?_; intro w1 hbS hgS; have HM1 := hide ((unhide HM0).grown0 hbS hgS); have HGw1 := hide hgS; clear hbS hgS))
    exact ret_frame rfl w.heap.size _ rfl (by rfl) (unhide HM1).blk0 (by rfl) (by exact freshF_zero (unhide HM1).below 2)
  | sum v r hb h0 h1 h2 h3 =>
    obtain ⟨ad, rfl, _, hcl⟩ := hrW (by rw [hb]; simp)
    have c0 : W.cell? ad = some (.int .u8 (v.toNat : Int)) := hcl 0 v (by rw [hb]; rfl)
    have hp : 0 < b.length := by rw [hb]; simp
    have hv : ((v.toNat : Int) == 0) = false := beq_eq_false_iff_ne.2 (by omega)
    have HW := hide (word_any b ad c B 13 W hrW hlc hc (by omega))
    obtain ⟨n, hn⟩ : ∃ n, Frm.word b 13 = n := ⟨_, rfl⟩
    have HN := hide hn
    rw [hn] at HW h1 h2 h3
    have hqe : Hid (Frm.crc b = (Crc.more 0#32 (b.take (17 + n))).toNat) := hide (by rw [Frm.crc, hn])
    have HO := hide (refMore0 (b.take (17 + n)) (some ad) (17 + n) c B W (hrW.take (17 + n)) (by simp; omega) (by omega))
    have H3 := hide h3
    have s1 : (17 : Int) + (n : Int) ≤ (c : Int) := by omega
    have hcell : ∀ j m, j < 4 → 17 + n + j = m → ∃ u : UInt8, b[17 + n + j]? = some u ∧ W.cell? (ad.add m) = some (.int .u8 (u.toNat : Int)) := fun j m hj hm => by
      subst hm
      have hx : b[17 + n + j]? = some b[17 + n + j] := List.getElem?_eq_getElem (by omega)
      exact ⟨_, hx, hcl _ _ hx⟩
    obtain ⟨u0, hu0, c5⟩ := hcell 0 (17 + n) (by omega) (by omega)
    obtain ⟨u1, hu1, c6⟩ := hcell 1 (18 + n) (by omega) (by omega)
    obtain ⟨u2, hu2, c7⟩ := hcell 2 (19 + n) (by omega) (by omega)
    obtain ⟨u3, hu3, c8⟩ := hcell 3 (20 + n) (by omega) (by omega)
    have HU0 := hide hu0
    have HU1 := hide hu1
    have HU2 := hide hu2
    have HU3 := hide hu3
    clear hb hcl hn h3 hcell hu0 hu1 hu2 hu3
    have hq32 : (Crc.more 0#32 (b.take (17 + n))).toNat < 4294967296 := (Crc.more 0#32 (b.take (17 + n))).isLt
    generalize (Crc.more 0#32 (b.take (17 + n))).toNat = q at hq32 hqe HO
    by_cases e0 : u0 = UInt8.ofNat q
    case neg =>
      have f0 : ((u0.toNat : Int) != (q : Int) % 256) = true := by simp only [bne_iff_ne, ne_eq]; intro h; exact e0 (Frm.byte_eq (by omega))
      clear e0
      go_enter Try.func18, Try.ntmps18
      go_wp2_with (first
        | (go_at_call 25; refine (unhide HW).mono ?_; rintro _ w' ⟨rfl, rfl⟩)
        | (go_at_call 22; refine (unhide HO).mono ?_; rintro _ w' ⟨rfl, rfl⟩)
        | (refine wpList_store_blk rfl 24 (.tmp 2) (.tmp 77) rfl (w.heap.size) _ (by rfl) (by rfl) 24 _ (unhide HM0).blk0 (by kernel_rfl) (by rfl) (Frm.cells_one 0 0 0 0 none 0 0) ?_; intro w1 hbS hgS; have HM1 := hide ((unhide HM0).grown0 hbS hgS); have HGw1 := hide hgS; clear hbS hgS))
      exact ret_frame rfl w.heap.size _ rfl (by rfl) (unhide HM1).blk0 (by rfl) (by exact freshF_zero (unhide HM1).below 4)
    have f0 : ((u0.toNat : Int) != (q : Int) % 256) = false := by rw [bne_eq_false_iff_eq]; have := Frm.byte_is e0; omega
    have E0 := hide e0
    clear e0
    by_cases e1 : u1 = UInt8.ofNat (q / 256)
    case neg =>
      have f1 : ((u1.toNat : Int) != (q : Int) / 256 % 256) = true := by simp only [bne_iff_ne, ne_eq]; intro h; exact e1 (Frm.byte_eq (by omega))
      clear e1
      go_enter Try.func18, Try.ntmps18
      go_wp2_with (first
        | (go_at_call 25; refine (unhide HW).mono ?_; rintro _ w' ⟨rfl, rfl⟩)
        | (go_at_call 22; refine (unhide HO).mono ?_; rintro _ w' ⟨rfl, rfl⟩)
        | (refine wpList_store_blk rfl 24 (.tmp 2) (.tmp 77) rfl (w.heap.size) _ (by rfl) (by rfl) 24 _ (unhide HM0).blk0 (by kernel_rfl) (by rfl) (Frm.cells_one 0 0 0 0 none 0 0) ?_; intro w1 hbS hgS; have HM1 := hide ((unhide HM0).grown0 hbS hgS); have HGw1 := hide hgS; clear hbS hgS))
      exact ret_frame rfl w.heap.size _ rfl (by rfl) (unhide HM1).blk0 (by rfl) (by exact freshF_zero (unhide HM1).below 4)
    have f1 : ((u1.toNat : Int) != (q : Int) / 256 % 256) = false := by rw [bne_eq_false_iff_eq]; have := Frm.byte_is e1; omega
    have E1 := hide e1
    clear e1
    by_cases e2 : u2 = UInt8.ofNat (q / 65536)
    case neg =>
      have f2 : ((u2.toNat : Int) != (q : Int) / 65536 % 256) = true := by simp only [bne_iff_ne, ne_eq]; intro h; exact e2 (Frm.byte_eq (by omega))
      clear e2
      go_enter Try.func18, Try.ntmps18
      go_wp2_with (first
        | (go_at_call 25; refine (unhide HW).mono ?_; rintro _ w' ⟨rfl, rfl⟩)
        | (go_at_call 22; refine (unhide HO).mono ?_; rintro _ w' ⟨rfl, rfl⟩)
        | (refine wpList_store_blk rfl 24 (.tmp 2) (.tmp 77) rfl (w.heap.size) _ (by rfl) (by rfl) 24 _ (unhide HM0).blk0 (by kernel_rfl) (by rfl) (Frm.cells_one 0 0 0 0 none 0 0) ?_; intro w1 hbS hgS; have HM1 := hide ((unhide HM0).grown0 hbS hgS); have HGw1 := hide hgS; clear hbS hgS))
      exact ret_frame rfl w.heap.size _ rfl (by rfl) (unhide HM1).blk0 (by rfl) (by exact freshF_zero (unhide HM1).below 4)
    have f2 : ((u2.toNat : Int) != (q : Int) / 65536 % 256) = false := by rw [bne_eq_false_iff_eq]; have := Frm.byte_is e2; omega
    have E2 := hide e2
    clear e2
    by_cases e3 : u3 = UInt8.ofNat (q / 16777216)
    case neg =>
      have f3 : ((u3.toNat : Int) != (q : Int) / 16777216) = true := by simp only [bne_iff_ne, ne_eq]; intro h; exact e3 (Frm.byte_eq (by omega))
      clear e3
      go_enter Try.func18, Try.ntmps18
      go_wp2_with (first
        | (go_at_call 25; refine (unhide HW).mono ?_; rintro _ w' ⟨rfl, rfl⟩)
        | (go_at_call 22; refine (unhide HO).mono ?_; rintro _ w' ⟨rfl, rfl⟩)
        | (refine wpList_store_blk rfl 24 (.tmp 2) (.tmp 77) rfl (w.heap.size) _ (by rfl) (by rfl) 24 _ (unhide HM0).blk0 (by kernel_rfl) (by rfl) (Frm.cells_one 0 0 0 0 none 0 0) ?_; intro w1 hbS hgS; have HM1 := hide ((unhide HM0).grown0 hbS hgS); have HGw1 := hide hgS; clear hbS hgS))
      exact ret_frame rfl w.heap.size _ rfl (by rfl) (unhide HM1).blk0 (by rfl) (by exact freshF_zero (unhide HM1).below 4)
    have f3 : ((u3.toNat : Int) != (q : Int) / 16777216) = false := by rw [bne_eq_false_iff_eq]; have := Frm.byte_is e3; omega
    have E3 := hide e3
    clear e3
    exact absurd (by
      rw [unhide hqe]
      refine Frm.take4_eq b (17 + n) q fun j hj => ?_
      obtain rfl | rfl | rfl | rfl : j = 0 ∨ j = 1 ∨ j = 2 ∨ j = 3 := by omega
      · rw [unhide HU0, unhide E0]; simp
      · rw [unhide HU1, unhide E1]
      · rw [unhide HU2, unhide E2]
      · rw [unhide HU3, unhide E3]) (unhide H3)
  | ok v r hb h0 h1 h2 h3 =>
    obtain ⟨ad, rfl, _, hcl⟩ := hrW (by rw [hb]; simp)
    have c0 : W.cell? ad = some (.int .u8 (v.toNat : Int)) := hcl 0 v (by rw [hb]; rfl)
    have hp : 0 < b.length := by rw [hb]; simp
    have hv : ((v.toNat : Int) == 0) = false := beq_eq_false_iff_ne.2 (by omega)
    have HW := hide (word_any b ad c B 13 W hrW hlc hc (by omega))
    obtain ⟨n, hn⟩ : ∃ n, Frm.word b 13 = n := ⟨_, rfl⟩
    have HN := hide hn
    rw [hn] at HW h1 h2 h3
    have hqe : Hid (Frm.crc b = (Crc.more 0#32 (b.take (17 + n))).toNat) := hide (by rw [Frm.crc, hn])
    have HO := hide (refMore0 (b.take (17 + n)) (some ad) (17 + n) c B W (hrW.take (17 + n)) (by simp; omega) (by omega))
    have H3 := hide h3
    have s1 : (17 : Int) + (n : Int) ≤ (c : Int) := by omega
    have hcell : ∀ j m, j < 4 → 17 + n + j = m → ∃ u : UInt8, b[17 + n + j]? = some u ∧ W.cell? (ad.add m) = some (.int .u8 (u.toNat : Int)) := fun j m hj hm => by
      subst hm
      have hx : b[17 + n + j]? = some b[17 + n + j] := List.getElem?_eq_getElem (by omega)
      exact ⟨_, hx, hcl _ _ hx⟩
    obtain ⟨u0, hu0, c5⟩ := hcell 0 (17 + n) (by omega) (by omega)
    obtain ⟨u1, hu1, c6⟩ := hcell 1 (18 + n) (by omega) (by omega)
    obtain ⟨u2, hu2, c7⟩ := hcell 2 (19 + n) (by omega) (by omega)
    obtain ⟨u3, hu3, c8⟩ := hcell 3 (20 + n) (by omega) (by omega)
    have HU0 := hide hu0
    have HU1 := hide hu1
    have HU2 := hide hu2
    have HU3 := hide hu3
    clear hb hcl hn h3 hcell hu0 hu1 hu2 hu3
    have hq32 : (Crc.more 0#32 (b.take (17 + n))).toNat < 4294967296 := (Crc.more 0#32 (b.take (17 + n))).isLt
    generalize (Crc.more 0#32 (b.take (17 + n))).toNat = q at hq32 hqe HO
    have hall := Frm.take4_get b (17 + n) q ((unhide H3).trans (by rw [unhide hqe]))
    have e0 : u0 = UInt8.ofNat q := Option.some.inj ((unhide HU0).symm.trans ((hall 0 (by omega)).trans (by simp)))
    have e1 : u1 = UInt8.ofNat (q / 256) := Option.some.inj ((unhide HU1).symm.trans (hall 1 (by omega)))
    have e2 : u2 = UInt8.ofNat (q / 65536) := Option.some.inj ((unhide HU2).symm.trans (hall 2 (by omega)))
    have e3 : u3 = UInt8.ofNat (q / 16777216) := Option.some.inj ((unhide HU3).symm.trans (hall 3 (by omega)))
    have f0 : ((u0.toNat : Int) != (q : Int) % 256) = false := by rw [bne_eq_false_iff_eq]; have := Frm.byte_is e0; omega
    have f1 : ((u1.toNat : Int) != (q : Int) / 256 % 256) = false := by rw [bne_eq_false_iff_eq]; have := Frm.byte_is e1; omega
    have f2 : ((u2.toNat : Int) != (q : Int) / 65536 % 256) = false := by rw [bne_eq_false_iff_eq]; have := Frm.byte_is e2; omega
    have f3 : ((u3.toNat : Int) != (q : Int) / 16777216) = false := by rw [bne_eq_false_iff_eq]; have := Frm.byte_is e3; omega
    clear e0 e1 e2 e3 hall
    have HW1 : Hid (∀ u : World, RdB u B (some ad) b → Calls Try.prog 25 #[.slice (some ad) b.length c, .int .i64 1] u fun e w' => e = .returned (.int .i64 (Frm.word b 1 : Int)) ∧ u = w') := hide (fun u h => word_any b ad c B 1 u h hlc hc (by omega))
    have HW5 : Hid (∀ u : World, RdB u B (some ad) b → Calls Try.prog 25 #[.slice (some ad) b.length c, .int .i64 5] u fun e w' => e = .returned (.int .i64 (Frm.word b 5 : Int)) ∧ u = w') := hide (fun u h => word_any b ad c B 5 u h hlc hc (by omega))
    have HW9 : Hid (∀ u : World, RdB u B (some ad) b → Calls Try.prog 25 #[.slice (some ad) b.length c, .int .i64 9] u fun e w' => e = .returned (.int .i64 (Frm.word b 9 : Int)) ∧ u = w') := hide (fun u h => word_any b ad c B 9 u h hlc hc (by omega))
    have hbW := hide (unhide HM0).below
    have hadw : Hid (∀ wx, Below w.heap.size w wx → RdB wx B (some ad) b) := hide (fun wx h => hr.below (h.mono hB))
    have hc0w : W.cell? ad = w.cell? ad := (unhide HM0).below.cell (p := ad) (by omega)
    have g1 := fun (wx : World) (h : Below w.heap.size w wx) => ((h.cell (p := ad) (by omega)).trans (hc0w.symm.trans c0) : wx.cell? ad = some (.int .u8 (v.toNat : Int)))
    have s5 : (0 : Int) < (b.length : Int) := by omega
    have s6 : (17 : Int) ≤ 17 + (n : Int) := by omega
    have hvl : v.toNat < 256 := v.toNat_lt
    have hw1 : IntKind.i64.wrap (17 + (n : Int)) = 17 + (n : Int) := by rw [IntKind.wrap_i64]; omega
    have hw3 : IntKind.i64.wrap ((n : Int) + 21) = (n : Int) + 21 := by rw [IntKind.wrap_i64]; omega
    have hw2 : IntKind.i64.wrap (v.toNat : Int) = (v.toNat : Int) := by rw [IntKind.wrap_i64]; omega
    go_enter Try.func18, Try.ntmps18
    go_wp2_with (first
      | (go_at_call 25; refine (unhide HW).mono ?_; rintro _ w' ⟨rfl, rfl⟩)
      | (go_at_call 22; refine (unhide HO).mono ?_; rintro _ w' ⟨rfl, rfl⟩))
    have hb1 : Hid (Below w.heap.size w (W.alloc (.cells #[] 5))) := hide ((unhide hbW).alloc (unhide hbW).size _)
    have HO1 : Hid ((W.alloc (.cells #[] 5)).ownsRow (w.heap.size + 1) 5 1 (.slice (some ⟨w.heap.size + 1, 0, none⟩) 0 0) 0 []) := hide (by
      have h := own_new W (w.heap.size + 1) #[] 5 0 [] (by omega) (by simp [maxLen]) rfl rfl
      rw [hws] at h
      exact h)
    have HX : Hid (RdV (W.alloc (.cells #[] 5)) B (some (ad.add 17)) (((b.drop 17).take n).map Bv)) := hide (((unhide hadw _ (unhide hb1)).off 17).take n).v
    have hsz1 : (W.alloc (.cells #[] 5)).heap.size = w.heap.size + 1 + 1 := by simp [hws]
    generalize hbd : (b.drop 17).take n = bd at HX
    have hbl : Hid (bd.length = n) := hide (by rw [← hbd]; simp; omega)
    have HBD := hide hbd
    have hSZ := hide hsz1
    clear hbd hsz1
    go_region_held3 (fun wx => Below w.heap.size w wx) (first | with_reducible exact (unhide hbW).drew | with_reducible exact (unhide hb1).drew | with_reducible exact unhide hb1 | with_reducible exact unhide hb3 | with_reducible exact (unhide HM3).set0.set0.set0.set0.set0.below | fail)
      (first
        | (go_at_call_of 25 (Value.int IntKind.i64 1); refine (unhide HW1 _ (unhide hadw _ (by first | with_reducible exact (unhide hbW).drew | with_reducible exact (unhide hb1).drew | with_reducible exact unhide hb3))).mono ?_; rintro _ w' ⟨rfl, rfl⟩)
        | (go_at_call_of 25 (Value.int IntKind.i64 5); refine (unhide HW5 _ (unhide hadw _ (by first | with_reducible exact (unhide hbW).drew | with_reducible exact (unhide hb1).drew | with_reducible exact unhide hb3))).mono ?_; rintro _ w' ⟨rfl, rfl⟩)
        | (go_at_call_of 25 (Value.int IntKind.i64 9); refine (unhide HW9 _ (unhide hadw _ (by first | with_reducible exact (unhide hbW).drew | with_reducible exact (unhide hb1).drew | with_reducible exact unhide hb3))).mono ?_; rintro _ w' ⟨rfl, rfl⟩)
        | (refine step_append_any _ rfl (.tmp 88) (.tmp 92) _ rfl (w.heap.size + 1) 5 i0 _ 1 1 Try.underlying22 hi hz0 hz1 hz2 rfl (by omega) _ 0 [] (by rfl) (unhide HO1) B (some (ad.add 17)) n (c - 17) _ (by simp [Act.eval]; exact ⟨by first | rfl | (rw [if_neg (by omega)]; rfl), by omega⟩) (unhide HX) (by rw [List.length_map, Nat.mul_one]; exact unhide hbl) oneCell_Bv (by simp only [maxLen]; omega) (by omega) (Nat.le_trans (Nat.le_succ _) (Nat.le_of_eq (unhide hSZ).symm)) ?_
           intro A3 c3 w3 hown3 hg3 hat3 hbel3 hcc3
           rw [Nat.zero_add, List.nil_append] at hown3
           rw [Nat.zero_add] at hcc3 ⊢
           have HO3 := hide hown3
           have HM3 : Hid (Mem w w3 [(w.heap.size, 24, Frm.cells 0 0 0 0 (.slice none 0 0))]) := hide (by first | exact ((unhide HM0).other _).drew.low hbel3 (by simp) (by omega) | exact ((unhide HM0).other _).low hbel3 (by simp) (by omega))
           have hb3 := hide (unhide HM3).below
           have fc := Frm.cellsAt (unhide HM3).blk0
           have ff := Frm.frozenAt (unhide HM3).blk0
           clear hown3 hg3 hat3 hbel3))
    all_goals go_wp2_with fail
    all_goals
      have HMF := hide (((unhide HM3).set0 (i := 0) (v := .int .i64 (v.toNat : Int))).set0 (i := 1) (v := .int .i64 (Frm.word b 1 : Int)) |>.set0 (i := 2) (v := .int .i64 (Frm.word b 5 : Int)) |>.set0 (i := 3) (v := .int .i64 (Frm.word b 9 : Int)) |>.set0 (i := 4) (v := .slice A3 n c3) |>.as0 (cs' := Frm.cells (v.toNat : Int) (Frm.word b 1 : Int) (Frm.word b 5 : Int) (Frm.word b 9 : Int) (.slice A3 n c3)) (by rfl))
      refine ret_frame rfl w.heap.size _ rfl (by rfl) (unhide HMF).blk0 (by rfl) ?_
      have hgb : (Frm.got b v).body = bd := by rw [← unhide HBD, Frm.got, unhide HN]
      refine ⟨A3, c3, ?_, ?_, (unhide HMF).below, ?_⟩
      · unfold Frm.val
        rw [show ((Frm.got b v, Frm.word b 13 + 21, (0 : Int)) : Frm.F × Nat × Int).1 = Frm.got b v from rfl, hgb, unhide hbl, unhide HN]
        have e1 : (n : Int) + 21 = ((n + 21 : Nat) : Int) := by omega
        rw [← e1]
        rfl
      · rw [show ((Frm.got b v, Frm.word b 13 + 21, (0 : Int)) : Frm.F × Nat × Int).1 = Frm.got b v from rfl, hgb, unhide hbl]
        have h := ownsRow_setCell_below (ownsRow_setCell_below (ownsRow_setCell_below (ownsRow_setCell_below (ownsRow_setCell_below (unhide HO3) (a := ⟨w.heap.size, 0, none⟩) (by simp) (.int .i64 (v.toNat : Int))) (a := ⟨w.heap.size, 1, none⟩) (by simp) (.int .i64 (Frm.word b 1 : Int))) (a := ⟨w.heap.size, 2, none⟩) (by simp) (.int .i64 (Frm.word b 5 : Int))) (a := ⟨w.heap.size, 3, none⟩) (by simp) (.int .i64 (Frm.word b 9 : Int))) (a := ⟨w.heap.size, 4, none⟩) (by simp) (.slice A3 n c3)
        exact own_more h (fun q hq => by have := (h.lt q hq).1; omega)
      · rw [show ((Frm.got b v, Frm.word b 13 + 21, (0 : Int)) : Frm.F × Nat × Int).1 = Frm.got b v from rfl, hgb, unhide hbl]
        exact hcc3
end Go.Proofs.Ytjlmcjegfbnhpaa
