/- The walk of NetFull. -/
import Derived.Test.YtbclfiollfagmaaNetAwake
import Derived.Lib.SmallJoins
namespace Go.Proofs.Ytbclfiollfagmaa
set_option linter.unusedVariables false
open Go.RowKit

theorem umod (x m : Int) (h0 : 0 < m) (hm : m < 9223372036854775807) : ∃ N : Nat, wrap64 ((IntKind.u64.wrap x).tmod m) = N ∧ (N : Int) < m := by
  have h := wrap_u64_nonneg x
  have e : (IntKind.u64.wrap x).tmod m = IntKind.u64.wrap x % m := Int.tmod_eq_emod_of_nonneg h
  have h1 := Int.emod_nonneg (IntKind.u64.wrap x) (show m ≠ 0 by omega)
  have h2 := Int.emod_lt_of_pos (IntKind.u64.wrap x) h0
  refine ⟨(IntKind.u64.wrap x % m).toNat, ?_, by omega⟩
  rw [e]
  unfold wrap64
  omega
/-- what the law's own net is -/
structure Mine (w wr : World) (p : Nat) (s : NS) : Prop where
  at_ : NetAt wr w.heap.size p s
  below : Below w.heap.size w wr
theorem Mine.new {w wr w' : World} {p : Nat} {s : NS} (h : Mine w wr p s) (hb : Below wr.heap.size wr w') : Mine w w' p s := ⟨h.at_.new hb, h.below.trans (hb.mono h.below.size)⟩
theorem Mine.step {w wr w' : World} {p : Nat} {s s' : NS} (h : Mine w wr p s) (hs : NStep wr w' w.heap.size p s s') : Mine w w' p s' := ⟨hs.at_, h.below.trans (hs.below h.at_ h.below.size)⟩
set_option maxHeartbeats 4000000 in
set_option maxRecDepth 20000 in
theorem netFull_bad (f t m0 : Int) (w : World) (h : ¬ Rt f t) :
    Calls Try.prog 3 #[.int .i64 f, .int .i64 t, .int .i64 m0] w fun e w' => e = .returned (.bool true) ∧ Below w.heap.size w w' := by
  have HN := hide (new_net w)
  have HA := hide awake_any
  have HR := hide (fun u => rright_no f t u h)
  have HS := hide (fun u v => send_away w.heap.size f t v u h)
  have HL := hide (fun u => len_no w.heap.size f t u h)
  clear h
  go_enter Try.func3, Try.ntmps3
  go_wp2_with (first
    | (go_at_call 8; refine (unhide HN).mono ?_; rintro _ w1 ⟨rfl, hn1, hb1⟩; have HM1 : Hid (Mine w w1 w.heap.size newNS) := hide ⟨hn1, hb1⟩; clear hn1 hb1)
    | (go_at_call 9; refine (unhide HR _).mono ?_; rintro _ w2 ⟨rfl, rfl⟩)
    | (go_at_call 10; refine (unhide HA _).mono ?_; rintro _ w2 ⟨rfl, hb2⟩; have HM2 := hide ((unhide HM1).new hb2); clear hb2)
    | (go_at_call 11; refine (unhide HS _ _).mono ?_; rintro _ w3 ⟨rfl, rfl⟩)
    | (go_at_call 12; refine (unhide HL _).mono ?_; rintro _ w3 ⟨rfl, rfl⟩)
    | (go_at_call 13; refine (lost_any _ _ _ _ (unhide HM2).at_).mono ?_; rintro _ w3 ⟨rfl, rfl⟩; simp only [newNS]))
  go_ret
  exact ⟨rfl, (unhide HM2).below⟩
set_option maxHeartbeats 4000000 in
set_option maxRecDepth 20000 in
theorem netFull_ok (a b : Nat) (m0 : Int) (w : World) (ha : a ≤ 20) (hb : b ≤ 20) (hab : a ≠ b) :
    Calls Try.prog 3 #[.int .i64 (a : Int), .int .i64 (b : Int), .int .i64 m0] w fun e w' => e = .returned (.bool true) ∧ Below w.heap.size w w' := by
  have HN := hide (new_net w)
  have HA := hide awake_any
  have HR := hide (fun u => rright_yes a b u ha hb hab)
  have HAB := hide hab
  clear hab
  go_enter Try.func3, Try.ntmps3
  go_upto_region 7 with (first
    | (go_at_call 8; refine (unhide HN).mono ?_; rintro _ w1 ⟨rfl, hn1, hb1⟩; have HM1 : Hid (Mine w w1 w.heap.size newNS) := hide ⟨hn1, hb1⟩; clear hn1 hb1)
    | (go_at_call 9; refine (unhide HR _).mono ?_; rintro _ w2 ⟨rfl, rfl⟩))
  obtain ⟨M, hM, hM20⟩ := umod m0 20 (by omega) (by omega)
  rw [hM]
  clear hM
  go_wp2_with fail
  go_loopw [43] (fun i wr => ∃ (k : Nat) (s : NS), k ≤ 48 + M ∧ i = .int .i64 k ∧ Mine w wr w.heap.size s ∧ (s.ways (a * 21 + b)).ps.length = min k 48 ∧ s.lost = ((k - 48 : Nat) : Int)) (fun i _ => 48 + M - (intOf i).toNat)
  case atStart => exact ⟨0, newNS, by omega, rfl, unhide HM1, by simp [newNS], rfl⟩
  case round =>
    obtain ⟨k, s, hk, rfl, h1, h2, h3⟩ := hrel
    have HM := hide h1
    have H2 := hide h2; have H3 := hide h3
    clear h1 h2 h3 HM1
    by_cases hlt : k < 48 + M
    · have hnb : Below wr.heap.size wr (wr.alloc (.cells #[Value.int .u8 k] 5)) := (Below.refl _ _).alloc (Nat.le_refl _) _
      by_cases h48 : k < 48
      · have f1 : decide ((48 : Int) ≤ (k : Int)) = false := decide_eq_false (by omega)
        have HS := hide (send_ok w.heap.size w.heap.size s a b [UInt8.ofNat k] (some ⟨wr.heap.size, 0, none⟩) 1 (wr.heap.size + 1) (wr.alloc (.cells #[Value.int .u8 k] 5)) ((unhide HM).at_.new hnb) ha hb (unhide HAB) (by rw [unhide H2]; omega) (RdB.new wr #[Value.int .u8 k] 5 (0, 0) [UInt8.ofNat k] (by simp [Bv]; omega)) (by simp) (by simp))
        have HX := hide hnb
        clear hnb
        go_wp2_with (go_at_call 11; refine (unhide HS).mono ?_; rintro _ w2 ⟨rfl, A4, c4, A2, c2, hst⟩; have HST := hide hst; clear hst)
        go_roundw
        case rel => exact ⟨k + 1, _, by omega, by go_num, ((unhide HM).new (unhide HX)).step (unhide HST), by rw [NS.put_same, List.length_append, unhide H2, List.length_singleton]; omega, by show s.lost = _; rw [unhide H3]; omega⟩
        case measure => simp [intOf]; omega
      · have f1 : decide ((48 : Int) ≤ (k : Int)) = true := decide_eq_true (by omega)
        have HS := hide (fun v => send_full w.heap.size w.heap.size s a b v (wr.alloc (.cells #[Value.int .u8 k] 5)) ((unhide HM).at_.new hnb) ha hb (unhide HAB) (by rw [unhide H2]; omega) (by rw [unhide H3]; omega) (by rw [unhide H3]; omega))
        have HX := hide hnb
        clear hnb
        go_wp2_with (go_at_call 11; refine (unhide HS _).mono ?_; rintro _ w2 ⟨rfl, hst⟩; have HST := hide hst; clear hst)
        go_roundw
        case rel => exact ⟨k + 1, _, by omega, by go_num, ((unhide HM).new (unhide HX)).step (unhide HST), by rw [unhide H2]; omega, by show s.lost + 1 = _; rw [unhide H3]; omega⟩
        case measure => simp [intOf]; omega
    · obtain rfl : k = 48 + M := by omega
      have hl : (s.ways (a * 21 + b)).ps.length = 48 := by rw [unhide H2]; omega
      have hz : s.lost = (M : Int) := by rw [unhide H3]; omega
      obtain ⟨x, hx⟩ : ∃ x, (s.ways (a * 21 + b)).ps[0]? = some x := ⟨_, List.getElem?_eq_getElem (by omega)⟩
      have HL := hide (fun u hu => len_yes w.heap.size w.heap.size s a b u hu ha hb (unhide HAB))
      have HT := hide (fun u hu => twice_full w.heap.size w.heap.size s a b 0 x u hu ha hb (unhide HAB) hx (by omega))
      have HK := hide (fun u hu => back_ok w.heap.size w.heap.size s a b 0 x u hu ha hb (unhide HAB) hx)
      have HLL := hide hl; have HZ := hide hz
      clear hl hz hx
      go_wp2_with (first
        | (go_at_call 10; refine (unhide HA _).mono ?_; rintro _ w2 ⟨rfl, hb2⟩; have HM2 := hide ((unhide HM).new hb2); clear hb2)
        | (go_at_call 12; refine (unhide HL _ (unhide HM2).at_).mono ?_; rintro _ w3 ⟨rfl, rfl⟩; rw [unhide HLL])
        | (go_at_call 13; refine (lost_any _ _ _ _ (unhide HM2).at_).mono ?_; rintro _ w3 ⟨rfl, rfl⟩; rw [unhide HZ])
        | (go_at_call 14; refine (unhide HT _ (unhide HM2).at_).mono ?_; rintro _ w3 ⟨rfl, hb3⟩; have HM3 := hide ((unhide HM2).new hb3); clear hb3)
        | (go_at_call 15; refine (unhide HK _ (unhide HM3).at_).mono ?_; rintro _ w4 ⟨A3, c3, s3, hs3, rfl, A4, c4, A2, c2, hst⟩; have HM4 := hide ((unhide HM3).step hst); clear hst hs3))
      go_ret
      exact ⟨rfl, (unhide HM4).below⟩
theorem netFull_any (f t m0 : Int) (w : World) :
    Calls Try.prog 3 #[.int .i64 f, .int .i64 t, .int .i64 m0] w fun e w' => e = .returned (.bool true) ∧ Below w.heap.size w w' := by
  by_cases h : Rt f t
  · obtain ⟨a, b, rfl, rfl, ha, hb, hab, _⟩ := h.nat
    exact netFull_ok a b m0 w ha hb hab
  · exact netFull_bad f t m0 w h
end Go.Proofs.Ytbclfiollfagmaa
