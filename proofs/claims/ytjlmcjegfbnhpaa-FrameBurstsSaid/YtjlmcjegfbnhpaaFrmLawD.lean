/- The walk of FrameCuts. -/
import Derived.Test.YtjlmcjegfbnhpaaFrmLawC
namespace Go.Proofs.Ytjlmcjegfbnhpaa
set_option linter.unusedVariables false
open Go.RowKit

namespace Frm
theorem word_take (b : List UInt8) (i at' : Nat) (h : at' + 4 ≤ i) : word (b.take i) at' = word b at' := by
  rw [word, word, List.drop_take, List.take_take, Nat.min_eq_left (by omega)]
theorem first_cons {b r : List UInt8} {v : UInt8} (h : b = v :: r) : first b = firstAt b v := by
  subst h
  rfl
theorem unpack_cut {v e s a : Nat} {t : List UInt8} (h : Good v e s a t) (i : Nat) (hi : i < (whole (plain ⟨v, e, s, a, t⟩)).length) : unpack ((whole (plain ⟨v, e, s, a, t⟩)).take i) = (F.zero, 2) := by
  have hl : (whole (plain ⟨v, e, s, a, t⟩)).length = t.length + 21 := by
    rw [whole_len, plain_len]
    show 17 + t.length + 4 = _
    omega
  have hf : first ((whole (plain ⟨v, e, s, a, t⟩)).take i) = (F.zero, 0, 2) := by
    have w13 : word (whole (plain ⟨v, e, s, a, t⟩)) 13 = t.length := word13 h _
    have hv := ver_toNat h
    have h1 := h.v1
    have h6 := h.t
    have hx : whole (plain ⟨v, e, s, a, t⟩) = UInt8.ofNat v :: ((nums ⟨v, e, s, a, t⟩).flatMap (Num.fx 4) ++ t ++ le4 (Crc.more 0#32 (plain ⟨v, e, s, a, t⟩)).toNat) := rfl
    rcases Nat.eq_zero_or_pos i with rfl | hp
    · rfl
    · have hc : (whole (plain ⟨v, e, s, a, t⟩)).take i = UInt8.ofNat v :: (((nums ⟨v, e, s, a, t⟩).flatMap (Num.fx 4) ++ t ++ le4 (Crc.more 0#32 (plain ⟨v, e, s, a, t⟩)).toNat)).take (i - 1) := by
        rw [hx]
        obtain ⟨j, rfl⟩ : ∃ j, i = j + 1 := ⟨i - 1, by omega⟩
        rfl
      have hll : ((whole (plain ⟨v, e, s, a, t⟩)).take i).length = i := by rw [List.length_take]; omega
      have hF : first ((whole (plain ⟨v, e, s, a, t⟩)).take i) = firstAt ((whole (plain ⟨v, e, s, a, t⟩)).take i) (UInt8.ofNat v) := first_cons hc
      rw [hF, firstAt, hv, if_neg (by omega), hll]
      by_cases h17 : i < 17
      · rw [if_pos h17]
      · rw [if_neg h17, word_take _ _ _ (by omega), w13, if_neg (by omega), if_pos (by omega)]
  rw [unpack, hf]
  rfl
end Frm
theorem Frm.cut_at (a : Int) (n : Nat) (h : 0 < n) (h2 : n < 9223372036854775808) : ∃ i : Nat, i < n ∧ wrap64 ((IntKind.u64.wrap a).tmod (n : Int)) = (i : Int) := by
  have h1 : 0 ≤ IntKind.u64.wrap a := by rw [IntKind.wrap_u64]; exact Int.emod_nonneg _ (by decide)
  have h3 := Int.tmod_lt_of_pos (IntKind.u64.wrap a) (show (0 : Int) < (n : Int) by omega)
  have h4 := Int.tmod_nonneg (n : Int) h1
  generalize (IntKind.u64.wrap a).tmod (n : Int) = r at h3 h4
  refine ⟨r.toNat, by omega, ?_⟩
  rw [IntWalk.wrap64_in r ⟨by omega, by omega⟩]
  omega

set_option maxHeartbeats 2000000 in
set_option maxRecDepth 20000 in
theorem frameCuts_ok (v e s a : Nat) (t : List UInt8) (A : Option Addr) (c : Nat) (at_ : Int) (w : World) (hg : Frm.Good v e s a t) (hr : RdB w w.heap.size A t) :
    Calls Try.prog 7 #[.agg #[.int .i64 (v : Int), .int .i64 (e : Int), .int .i64 (s : Int), .int .i64 (a : Int), .slice A t.length c], .int .i64 at_] w fun e' w' => e' = .returned (.bool true) ∧ Below w.heap.size w w' := by
  have HM0 := hide ((Mem.start w).new (t := 24) (cs := #[.int .i64 (v : Int), .int .i64 (e : Int), .int .i64 (s : Int), .int .i64 (a : Int), .slice A t.length c]) w.heap.size rfl)
  have HA := hide awake_any
  have HP := hide (pack_goodC hg)
  have HK := hide (Frm.unpack_cut hg)
  have HF := hide (refSameF_eq Frm.F.zero)
  have hxl : (Frm.whole (Frm.plain ⟨v, e, s, a, t⟩)).length ≤ 1048597 := by rw [Frm.whole_len, Frm.plain_len]; have := hg.t; simp only; omega
  have hxp : 0 < (Frm.whole (Frm.plain ⟨v, e, s, a, t⟩)).length := by rw [Frm.whole_len]; omega
  generalize Frm.whole (Frm.plain ⟨v, e, s, a, t⟩) = x at HP HK hxl hxp
  obtain ⟨i, hi, ei⟩ := Frm.cut_at at_ x.length hxp (by omega)
  have HY := hide (unpack_zeroC (unhide HK i hi))
  have g2 : ((x.length : Int) == 0) = false := beq_eq_false_iff_ne.2 (by omega)
  go_enter Try.func7, Try.ntmps7
  go_wp2_with (first
    | (refine wpList_load_blk rfl 24 (.tmp 2) rfl (w.heap.size) rfl 24 _ _ ((unhide HM0).blk0) Try.underlying24 rfl (by kernel_rfl) ?_)
    | (go_at_call 10; (with_reducible refine ((unhide HP) _ A c w.heap.size (hr.below (unhide HM0).below) (unhide HM0).size).mono ?_); rintro _ w1 ⟨A1, c1, rfl, hown1, hbel1, hcc1⟩
       have HM1 := hide ((unhide HM0).called hbel1); have hcap1 := own_cap hown1; have HR1 := hide (RdB.of_own hown1); clear hown1 hbel1)
    | (go_at_call 14; (with_reducible refine ((unhide HY) _ A1 i c1 _ ((unhide HR1).take i) (Nat.le_refl _) (by simp; omega) (by omega) hcap1).mono ?_); rintro _ w2 ⟨A2, c2, rfl, hbel2⟩
       have HM2 := hide (((unhide HM1).called hbel2).new (t := 24) (cs := #[.int .i64 0, .int .i64 0, .int .i64 0, .int .i64 0, .slice A2 0 c2]) w2.heap.size rfl); clear hbel2)
    | (go_at_call 12; refine (unhide HA _).mono ?_; rintro _ w7 ⟨rfl, hb7⟩
       have HM7 := hide ((unhide HM2).called hb7); have fc1 := Frm.cellsAt (unhide HM7).blk0; clear hb7)
    | (go_at_call 16; refine ((unhide HF) A2 none 0 0 c2 0 0 0 w7 (fun h => absurd h (by simp [Frm.F.zero])) (fun h => absurd h (by simp [Frm.F.zero])) (Nat.zero_le _) (Nat.zero_le _) rfl rfl).mono ?_; rintro _ w8 ⟨rfl, hb8⟩
       have HM8 := hide ((unhide HM7).called hb8); clear hb8))
  go_ret
  exact ⟨rfl, (unhide HM8).below⟩

set_option maxHeartbeats 1000000 in
set_option maxRecDepth 20000 in
theorem frameCuts_bad (f : Frm.F) (A : Option Addr) (c : Nat) (at_ : Int) (w : World) (hr : RdB w w.heap.size A f.body) (hb63 : f.body.length ≤ 9223372036854775807) (er : Int) (hp : Frm.pack f = ([], er)) (he : er ≠ 0) :
    Calls Try.prog 7 #[.agg #[.int .i64 f.ver, .int .i64 f.epoch, .int .i64 f.seq, .int .i64 f.ack, .slice A f.body.length c], .int .i64 at_] w fun e' w' => e' = .returned (.bool true) ∧ Below w.heap.size w w' := by
  have HM0 := hide ((Mem.start w).new (t := 24) (cs := #[.int .i64 f.ver, .int .i64 f.epoch, .int .i64 f.seq, .int .i64 f.ack, .slice A f.body.length c]) w.heap.size rfl)
  have HA := hide awake_any
  have HP := hide (pack_any f A c w.heap.size _ (hr.below (unhide HM0).below) (unhide HM0).size hb63)
  rw [hp] at HP
  have hx : (er != 0) = true := by simp [he]
  clear hp he
  go_enter Try.func7, Try.ntmps7
  go_wp2_with (first
    | (refine wpList_load_blk rfl 24 (.tmp 2) rfl (w.heap.size) rfl 24 _ _ ((unhide HM0).blk0) Try.underlying24 rfl (by kernel_rfl) ?_)
    | (go_at_call 10; refine (unhide HP).mono ?_; rintro _ w1 ⟨A1, c1, rfl, hown1, hbel1, hcc1⟩; have HM1 := hide ((unhide HM0).called hbel1); clear hown1 hbel1 hcc1)
    | (go_at_call 12; refine (unhide HA _).mono ?_; rintro _ w7 ⟨rfl, hb7⟩; have HM7 := hide ((unhide HM1).called hb7); clear hb7))
  go_ret
  exact ⟨rfl, (unhide HM7).below⟩
theorem frameCuts_any (f : Frm.F) (A : Option Addr) (c : Nat) (at_ : Int) (w : World) (hr : RdB w w.heap.size A f.body) (hlc : f.body.length ≤ c) (hc : c ≤ 140737488351232) :
    Calls Try.prog 7 #[Frm.val f A c, .int .i64 at_] w fun e' w' => e' = .returned (.bool true) ∧ Below w.heap.size w w' := by
  by_cases h : (Frm.pack f).2 = 0
  · obtain ⟨v, e, s, a, hf, hg⟩ := Frm.good_of h
    generalize f.body = b at *
    subst hf
    exact frameCuts_ok v e s a b A c at_ w hg hr
  · obtain ⟨er, hp, he⟩ := Frm.bad_of h
    exact frameCuts_bad f A c at_ w hr (by omega) er hp he
end Go.Proofs.Ytjlmcjegfbnhpaa
