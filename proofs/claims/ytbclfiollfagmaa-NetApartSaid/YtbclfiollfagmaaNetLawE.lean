/- The walk of NetApart. -/
import Derived.Test.YtbclfiollfagmaaNetLawD
namespace Go.Proofs.Ytbclfiollfagmaa
set_option linter.unusedVariables false
open Go.RowKit

abbrev zop : Array Value := #[.int .i64 0, .int .i64 0, .int .i64 0, .int .i64 0, .int .i64 0, .int .u8 0, .slice none 0 0]
set_option maxHeartbeats 800000 in
set_option maxRecDepth 20000 in
theorem netApart_any (r : List NOp) (A : Option Addr) (c : Nat) (f t : Int) (w : World) (hr : InNOps w w.heap.size A r) (hc : r.length ≤ c) :
    Calls Try.prog 5 #[.slice A r.length c, .int .i64 f, .int .i64 t] w fun e w' => e = .returned (.bool true) ∧ Below w.heap.size w w' := by
  have HA := hide awake_any
  have HN := hide (fun u => new_net u)
  have HR := hide hr
  clear hr
  go_enter Try.func5, Try.ntmps5
  go_upto_region 5 with (first
    | (go_at_call 8; refine (unhide HN w).mono ?_; rintro _ w1 ⟨rfl, hn1, hb1⟩; have HN1 := hide hn1; have HB1 := hide hb1; clear hn1 hb1)
    | (go_at_call 8; refine (unhide HN w1).mono ?_; rintro _ w2 ⟨rfl, hn2, hb2⟩; have HN2 := hide hn2; have HB2 := hide hb2; clear hn2 hb2))
  have hs01 : w.heap.size < w1.heap.size := (unhide HN1).blk.lt
  have hs12 : w1.heap.size < w2.heap.size := (unhide HN2).blk.lt
  have hb02 : Below w.heap.size w w2 := (unhide HB1).trans ((unhide HB2).mono (by omega))
  obtain ⟨w4, hw4⟩ : ∃ u, (w2.alloc (.cells #[.slice none 0 0, .int .i64 0] 44)).alloc (.cells #[.slice none 0 0, .int .i64 0] 44) = u := ⟨_, rfl⟩
  have hb24 : Below w2.heap.size w2 w4 := hw4 ▸ ((Below.refl _ w2).alloc (Nat.le_refl _) _).alloc (by simp) _
  have hd1 : DocAt w4 w.heap.size w2.heap.size newDS := hw4 ▸ (newDS_at w2 w.heap.size (by omega)).new ((Below.refl _ _).alloc (Nat.le_refl _) _)
  have hd2 : DocAt w4 w.heap.size (w2.heap.size + 1) newDS := by
    have h := newDS_at (w2.alloc (.cells #[.slice none 0 0, .int .i64 0] 44)) w.heap.size (by simp; omega)
    rw [hw4] at h
    simpa using h
  have hn1 : NetAt w4 w.heap.size w.heap.size newNS := ((unhide HN1).new (unhide HB2)).new hb24
  have hn2 : NetAt w4 w.heap.size w1.heap.size newNS := ((unhide HN2).new hb24).rebase (by omega)
  have HO1 : Hid (Both w4 w.heap.size w.heap.size w2.heap.size newNS newDS 0) := hide (new_both hn1 hd1 (by omega))
  have HO2 : Hid (Both w4 w.heap.size w1.heap.size (w2.heap.size + 1) newNS newDS 0) := hide (new_both hn2 hd2 (by omega))
  have HBW : Hid (Below w.heap.size w w4) := hide (hb02.trans (hb24.mono (by omega)))
  have hs4 := hb24.size
  have HFW := hide (few_any r A c 100 w.heap.size w4 ((unhide HR).below (unhide HBW)) (by omega) hc (by omega))
  have hq12 : w2.heap.size + 1 < w4.heap.size := hd2.blk.lt
  clear hd1 hd2 hn1 hn2 hb02 hb24 HN1 HN2 HB1 HB2 HN
  try simp only [hw4]
  clear hw4
  go_wp2_with (go_at_call 20; refine (unhide HFW).mono ?_; rintro _ w5 ⟨A5, c5, rfl, hown5, hb5⟩
               have HQ5 : Hid (Quad w w5 w.heap.size w2.heap.size w1.heap.size (w2.heap.size + 1) newNS newDS newNS newDS 0 (.slice A5 (min 100 r.length) c5) (min 100 r.length) (opCells (fewOf r (min 100 r.length)))) := hide ⟨(unhide HO1).new hb5, (unhide HO2).new hb5, fun g h1 h2 => by
                   have e1 : g = w.heap.size ∨ g = w2.heap.size := h1.imp newNS_foot newDS_foot
                   have e2 : g = w1.heap.size ∨ g = w2.heap.size + 1 := h2.imp newNS_foot newDS_foot
                   omega, own_more hown5 (fun g hg => by have := (hown5.lt g hg).1; omega), fun g hg => by
                   have h5 := (hown5.lt g hg).1
                   refine ⟨fun h1 => ?_, fun h2 => ?_⟩
                   · have e1 : g = w.heap.size ∨ g = w2.heap.size := h1.imp newNS_foot newDS_foot
                     omega
                   · have e2 : g = w1.heap.size ∨ g = w2.heap.size + 1 := h2.imp newNS_foot newDS_foot
                     omega, (unhide HBW).trans (hb5.mono (by omega))⟩
               clear hown5 hb5)
  have hfl : (fewOf r (min 100 r.length)).length = min 100 r.length := fewOf_len r (by omega)
  generalize hN : min 100 r.length = N at HQ5 hfl ⊢
  have hN100 : N ≤ 100 := by omega
  generalize hL : fewOf r N = L at HQ5 hfl
  have HOK : Hid (∀ (k : Nat) (x : NOp), L[k]? = some x → x.Ok w w.heap.size ∧ x.l.length ≤ 4096) := hide (fun k x hx => fewOf_ok (unhide HR) (hL ▸ hx))
  clear HO1 HO2 HBW HFW hN hL HR
  go_loopw [29] (fun i wr => ∃ (k : Nat) (s1 s2 : NS) (d1 d2 : DS), k ≤ N ∧ i = .int .i64 k ∧ Quad w wr w.heap.size w2.heap.size w1.heap.size (w2.heap.size + 1) s1 d1 s2 d2 k (.slice A5 N c5) N (opCells L) ∧ Alike f t s1 s2) (fun i _ => N - (intOf i).toNat)
  case atStart => exact ⟨0, newNS, newNS, newDS, newDS, Nat.zero_le _, rfl, unhide HQ5, fun _ _ _ _ => rfl⟩
  case round =>
    obtain ⟨k, s1, s2, d1, d2, hk, rfl, hq, hal⟩ := hrel
    have HQ := hide hq
    have HAL := hide hal
    clear hal HQ5
    by_cases hlt : k < N
    · obtain ⟨x, hx⟩ : ∃ x, L[k]? = some x := ⟨_, List.getElem?_eq_getElem (by omega)⟩
      obtain ⟨g5, cap5, hv5, _, _⟩ := hq.row.form (by omega)
      obtain rfl : A5 = some ⟨g5, 0, none⟩ := by injection hv5
      have hcx := hq.cells hfl hx
      obtain ⟨hok, hxl⟩ := unhide HOK k x hx
      have HXOK := hide hok
      have HM1 := hide ((Mem.start wr).new (t := 47) (cs := #[.int .i64 0, .int .i64 0, .int .i64 0, .int .i64 0, .int .i64 0, .int .u8 0, .slice none 0 0]) wr.heap.size rfl)
      clear hq hv5 hx hok
      go_upto_region 8 with (refine wpList_store_blk rfl 47 (.tmp 12) (.tmp 32) rfl (wr.heap.size) _ (by rfl) (by rfl) 47 _ (unhide HM1).blk0 (by kernel_rfl) (by rfl) (by simp [Value.oneCell']) ?_; intro w6 hbS hgS; have HM2 := hide ((unhide HM1).grown0 hbS hgS); have HGw6 := hide hgS; clear hbS hgS)
      have HQ6 := hide ((unhide HQ).new (unhide HM2).below)
      have HDO : Hid (Calls Try.prog 21 #[.pointer (some ⟨w.heap.size, 0, none⟩), .pointer (some ⟨w2.heap.size, 0, none⟩), .agg #[.int .i64 x.kd, .int .i64 x.f, .int .i64 x.t, .int .i64 x.i, .int .i64 x.at_, .int .u8 (x.m.toNat : Int), .slice x.A x.l.length x.c]] w6 (DoneP w6 w.heap.size w.heap.size w2.heap.size k s1 d1 x)) := hide (do_any w.heap.size w.heap.size w2.heap.size w.heap.size k s1 d1 x w6 (unhide HQ6).one ((unhide HXOK).below (unhide HQ6).below) (Nat.le_refl _) hxl (by omega))
      have HFB : Hid (∀ g, FF w.heap.size w2.heap.size s1 d1 g ∨ FF w1.heap.size (w2.heap.size + 1) s2 d2 g → g < wr.heap.size) := hide (fun g hg => hg.elim (fun h => ((unhide HQ).one.foot h).2) (fun h => ((unhide HQ).two.foot h).2))
      clear hcx
      go_upto_region 9 with (first
        | (refine wpList_load_blk rfl 47 (.tmp 12) rfl (wr.heap.size) rfl 47 _ _ ((unhide HM2).blk0) Try.underlying47 rfl (by kernel_rfl) ?_)
        | (go_at_call 21; refine (unhide HDO).mono ?_; rintro _ w7 ⟨rfl, s1', d1', hb7, hs7, hm7⟩
           have HQ7 := hide ((unhide HQ6).first hb7 hs7); have HM7 := hide hm7; have HT7 := hide ((unhide HQ6).two.only hs7.only fun g hg hf => (unhide HQ6).apart g hf hg)
           have hk7 := (unhide HM2).blk0.only hs7.only (fun hf => Nat.lt_irrefl _ (unhide HFB _ (.inl hf)))
           have HK7 := hide hk7; have fo7 := opAt hk7; clear hb7 hs7 hm7 hk7))
      by_cases hft : x.f = f ∧ x.t = t
      · have g1 : (x.f == f) = true := beq_iff_eq.2 hft.1
        have g2 : (x.t == t) = true := beq_iff_eq.2 hft.2
        have HDO2 : Hid (Calls Try.prog 21 #[.pointer (some ⟨w1.heap.size, 0, none⟩), .pointer (some ⟨w2.heap.size + 1, 0, none⟩), .agg #[.int .i64 x.kd, .int .i64 x.f, .int .i64 x.t, .int .i64 x.i, .int .i64 x.at_, .int .u8 (x.m.toNat : Int), .slice x.A x.l.length x.c]] w7 (DoneP w7 w.heap.size w1.heap.size (w2.heap.size + 1) k s2 d2 x)) := hide (do_any w.heap.size w1.heap.size (w2.heap.size + 1) w.heap.size k s2 d2 x w7 (unhide HT7) ((unhide HXOK).below (unhide HQ7).below) (Nat.le_refl _) hxl (by omega))
        clear hft
        go_wp2_with (first
          | (refine wpList_load_blk rfl 47 (.tmp 12) rfl (wr.heap.size) rfl 47 _ _ (unhide HK7) Try.underlying47 rfl (by kernel_rfl) ?_)
          | (go_at_call 21; refine (unhide HDO2).mono ?_; rintro _ w8 ⟨rfl, s2', d2', hb8, hs8, hm8⟩
             have HQ8 := hide ((unhide HQ7).second k (Nat.le_refl _) hb8 hs8); have HM8 := hide hm8; clear hb8 hs8 hm8))
        go_roundw
        case rel => exact ⟨k + 1, s1', s2', d1', d2', by omega, by go_num, unhide HQ8, (unhide HAL).both (unhide HM7) (unhide HM8)⟩
        case measure => simp [intOf]; omega
      · have HAL2 := hide ((unhide HAL).left (unhide HM7) hft)
        by_cases hf1 : x.f = f
        · have g1 : (x.f == f) = true := beq_iff_eq.2 hf1
          have g2 : (x.t == t) = false := beq_eq_false_iff_ne.2 fun e => hft ⟨hf1, e⟩
          clear hft hf1
          go_wp2_with fail
          go_roundw
          case rel => exact ⟨k + 1, s1', s2, d1', d2, by omega, by go_num, unhide HQ7, unhide HAL2⟩
          case measure => simp [intOf]; omega
        · have g1 : (x.f == f) = false := beq_eq_false_iff_ne.2 hf1
          clear hft hf1
          go_wp2_with fail
          go_roundw
          case rel => exact ⟨k + 1, s1', s2, d1', d2, by omega, by go_num, unhide HQ7, unhide HAL2⟩
          case measure => simp [intOf]; omega
    · obtain rfl : k = N := by omega
      obtain ⟨m, hm48, hm1, hm2, hmj⟩ := (unhide HAL).told hq.one.net.few
      have HL1 := hide hm1; have HL2 := hide hm2; have HLJ := hide hmj
      obtain ⟨wo, hwo⟩ : ∃ u : World, u = wr := ⟨_, rfl⟩
      subst hwo
      clear hq hm1 hm2 hmj HOK
      go_wp2_with (first
        | (go_at_call 12; with_reducible refine (unhide HL1 _ _ _ (unhide HQ).one.net).mono ?_; rintro _ w6 ⟨rfl, rfl⟩)
        | (go_at_call 12; with_reducible refine (unhide HL2 _ _ _ (unhide HQ).two.net).mono ?_; rintro _ w6 ⟨rfl, rfl⟩))
      go_loopw [63] (fun i wr => ∃ j : Nat, j ≤ m ∧ i = .int .i64 j ∧ Quad w wr w.heap.size w2.heap.size w1.heap.size (w2.heap.size + 1) s1 d1 s2 d2 k (.slice A5 k c5) k (opCells L)) (fun i _ => m - (intOf i).toNat)
      case atStart => exact ⟨0, Nat.zero_le _, rfl, unhide HQ⟩
      case round =>
        obtain ⟨j, hj, rfl, hq⟩ := hrel
        have HQr := hide hq
        clear hq HQ
        by_cases hjm : j < m
        · obtain ⟨l, sp, hla, hlb⟩ := unhide HLJ j hjm
          have HLA := hide (hla wr _ _ (unhide HQr).one.net); have HLB := hide (fun u (hu : Below wr.heap.size wr u) => hlb u _ _ ((unhide HQr).new hu).two.net)
          have HM0 := hide (Mem.start wr)
          have HSM := hide (fun (u : World) (A2 A4 : Option Addr) (c2 c4 : Nat) (h1 : RdB u u.heap.size A2 l) (h2 : RdB u u.heap.size A4 l) => same_any l l A2 A4 c2 c4 u.heap.size u.heap.size u h1 h2)
          have hww : (sp == sp) = true := beq_self_eq_true sp
          have hwn : (sp != sp) = false := by simp
          clear hla hlb
          go_upto_region 18 with (first
            | (go_at_call 17; refine (unhide HLA).mono ?_; rintro _ w6 ⟨A6, c6, rfl, ho6, hb6⟩
               have HO6 := hide (ho6.alloc (.cells #[.slice none 0 0, .bool false] 36)); have HOL6 := hide (fun k hk => (ho6.lt k hk).2); have HM6 := hide (((unhide HM0).called hb6).new (t := 36) (cs := #[.slice none 0 0, .bool false]) w6.heap.size rfl); clear ho6 hb6)
            | (refine wpList_store_blk rfl 36 (.tmp 14) (.tmp 72) rfl (w6.heap.size) _ (by rfl) (by rfl) 36 _ (unhide HM6).blk0 (by kernel_rfl) (by rfl) (by simp [Value.oneCell']) ?_; intro w7 hbS hgS; have HM7 := hide ((unhide HM6).grown0 hbS hgS); have HGw7 := hide hgS; clear hbS hgS
               have HO7 := hide ((unhide HO6).kept (unhide HGw7) (.inr fun e => Nat.lt_irrefl _ ((unhide HOL6) _ e))); have HLB7 := hide (unhide HLB _ (unhide HM7).below)))
          go_wp2_with (first
            | (go_at_call 17; refine (unhide HLB7).mono ?_; rintro _ w8 ⟨A8, c8, rfl, ho8, hb8⟩
               have HO8 := hide (ho8.alloc (.cells #[.slice none 0 0, .bool false] 36)); have HOL8 := hide (fun k hk => (ho8.lt k hk).2); have HB78 := hide hb8; have HM8 := hide (((unhide HM7).called hb8).new (t := 36) (cs := #[.slice none 0 0, .bool false]) w8.heap.size rfl); clear ho8 hb8)
            | (refine wpList_store_blk rfl 36 (.tmp 16) (.tmp 80) rfl (w8.heap.size) _ (by rfl) (by rfl) 36 _ (unhide HM8).blk0 (by kernel_rfl) (by rfl) (by simp [Value.oneCell']) ?_; intro w9 hbS hgS; have HM9 := hide ((unhide HM8).grown0 hbS hgS); have HGw9 := hide hgS; clear hbS hgS
               have fp9 := pkAt (unhide HM9).blk1; have fq9 := pkAt (unhide HM9).blk0
               have HR8 := hide (RdB.of_own ((unhide HO8).kept (unhide HGw9) (.inr fun e => Nat.lt_irrefl _ ((unhide HOL8) _ e))))
               have HR7 := hide (RdB.of_own ((own_only ((unhide HO7)) (Only.of_new (S := fun _ => False) (unhide HB78)) (fun _ _ h => h)).alloc (.cells #[.slice none 0 0, .bool false] 36) |>.kept (unhide HGw9) (.inr fun e => by have h1 := ((unhide HO7).lt _ e).2; have h2 := (unhide HB78).size; omega))))
            | (go_at_call 19; refine (unhide HSM _ _ _ _ _ (unhide HR7) (unhide HR8)).mono ?_; rintro _ w10 ⟨rfl, rfl⟩; rw [beq_self_eq_true]))
          go_roundw
          case rel => exact ⟨j + 1, by omega, by go_num, (unhide HQr).new (unhide HM9).below⟩
          case measure => simp [intOf]; omega
        · obtain rfl : j = m := by omega
          go_wp2_with (go_at_call 10; refine (unhide HA _).mono ?_; rintro _ w11 ⟨rfl, hb11⟩; have HB11 := hide ((unhide HQr).below.trans (hb11.mono (unhide HQr).below.size)); clear hb11)
          go_ret
          exact ⟨rfl, unhide HB11⟩
end Go.Proofs.Ytbclfiollfagmaa
