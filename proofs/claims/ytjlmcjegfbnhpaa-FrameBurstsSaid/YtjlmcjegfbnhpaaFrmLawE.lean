/- The walk of FrameBursts. -/
import Derived.Test.YtjlmcjegfbnhpaaFrmLawD
import Derived.Test.YtjlmcjegfbnhpaaFrmBurstMath
namespace Go.Proofs.Ytjlmcjegfbnhpaa
set_option linter.unusedVariables false
open Go.RowKit

/-- the byte that is turned k places on -/
def bitsAt (s : BitVec 32) (k : Nat) : UInt8 := UInt8.ofNat (s.toNat / 2 ^ (8 * k))

theorem bitsAt_spell (s : BitVec 32) (k : Nat) : (s.toNat : Int) / 2 ^ (8 * k) % 256 = ((bitsAt s k).toNat : Int) := by
  unfold bitsAt
  rw [UInt8.toNat_ofNat', Int.natCast_emod, Int.natCast_ediv, Int.natCast_pow]
  rfl
theorem bitsAt_ne (s : BitVec 32) (k : Nat) : ((s.toNat : Int) / 2 ^ (8 * k) % 256 != 0) = (bitsAt s k != 0) := by
  rw [bitsAt_spell]
  rw [Bool.eq_iff_iff, bne_iff_ne, bne_iff_ne]
  have h : (bitsAt s k = 0) ↔ (bitsAt s k).toNat = 0 := by rw [← UInt8.toNat_inj]; rfl
  rw [ne_eq, ne_eq, h]
  omega
theorem any_range_succ (k : Nat) (p : Nat → Bool) : (List.range (k + 1)).any p = ((List.range k).any p || p k) := by
  rw [List.range_succ, List.any_append]; simp
theorem xor_byte8 (x : UInt8) (s : BitVec 32) (k : Nat) : bits BinOp.xor IntKind.u8 (x.toNat : Int) ((s.toNat : Int) / 2 ^ (8 * k) % 256) = ((x ^^^ bitsAt s k).toNat : Int) := by
  rw [bitsAt_spell]
  have hx := x.toNat_lt
  have hy := (bitsAt s k).toNat_lt
  rw [u8_xor_nat _ _ (by omega) (by omega), UInt8.toNat_xor]
theorem any_none {k : Nat} {p : Nat → UInt8} (h : ((List.range k).any fun j => p j != 0) = false) : ∀ j, j < k → p j = 0 := by
  intro j hj
  have := List.any_eq_false.1 h j (List.mem_range.2 hj)
  simpa using this
theorem any_some {k : Nat} {p : Nat → UInt8} (h : ((List.range k).any fun j => p j != 0) = true) : ∃ j, j < k ∧ p j ≠ 0 := by
  obtain ⟨j, hj, hp⟩ := List.any_eq_true.1 h
  exact ⟨j, List.mem_range.1 hj, by simpa using hp⟩

set_option maxHeartbeats 4000000 in
set_option maxRecDepth 20000 in
theorem frameBursts_ok (v e s a : Nat) (t : List UInt8) (A : Option Addr) (c : Nat) (at_ : Int) (bits : BitVec 32) (w : World) (hg : Frm.Good v e s a t) (hr : RdB w w.heap.size A t) :
    Calls Try.prog 6 #[.agg #[.int .i64 (v : Int), .int .i64 (e : Int), .int .i64 (s : Int), .int .i64 (a : Int), .slice A t.length c], .int .i64 at_, .int .u32 (bits.toNat : Int)] w fun e' w' => e' = .returned (.bool true) ∧ Below w.heap.size w w' := by
  obtain ⟨i0, hi, hz0, hz1, hz2⟩ := info_parts u8info
  have HM0 := hide ((Mem.start w).new (t := 24) (cs := #[.int .i64 (v : Int), .int .i64 (e : Int), .int .i64 (s : Int), .int .i64 (a : Int), .slice A t.length c]) w.heap.size rfl)
  have HA := hide awake_any
  have HP := hide (pack_goodC hg)
  have HX := hide (unpack_goodC hg)
  have HT := hide (Frm.turned_bad (Frm.plain ⟨v, e, s, a, t⟩))
  have HF := hide (refSameF_eq Frm.F.zero)
  have hxl : (Frm.whole (Frm.plain ⟨v, e, s, a, t⟩)).length ≤ 1048597 := by rw [Frm.whole_len, Frm.plain_len]; have := hg.t; simp only; omega
  have hxp : 0 < (Frm.whole (Frm.plain ⟨v, e, s, a, t⟩)).length := by rw [Frm.whole_len]; omega
  generalize Frm.whole (Frm.plain ⟨v, e, s, a, t⟩) = x at HP HX HT hxl hxp
  have hsl := bits.isLt
  by_cases hat : at_ < 0 ∨ (x.length : Int) ≤ at_
  · rcases hat with hat | hat
    · go_enter Try.func6, Try.ntmps6
      go_wp2_with (first
        | (refine wpList_load_blk rfl 24 (.tmp 3) rfl (w.heap.size) rfl 24 _ _ ((unhide HM0).blk0) Try.underlying24 rfl (by kernel_rfl) ?_)
        | (go_at_call 10; (with_reducible refine ((unhide HP) _ A c w.heap.size (hr.below (unhide HM0).below) (unhide HM0).size).mono ?_); rintro _ w1 ⟨A1, c1, rfl, hown1, hbel1, hcc1⟩; have HM1 := hide ((unhide HM0).called hbel1); clear hown1 hbel1)
        | (go_at_call 12; refine (unhide HA _).mono ?_; rintro _ w7 ⟨rfl, hb7⟩; have HM7 := hide ((unhide HM1).called hb7); clear hb7))
      go_ret
      exact ⟨rfl, (unhide HM7).below⟩
    · have h0 : 0 ≤ at_ := by omega
      go_enter Try.func6, Try.ntmps6
      go_wp2_with (first
        | (refine wpList_load_blk rfl 24 (.tmp 3) rfl (w.heap.size) rfl 24 _ _ ((unhide HM0).blk0) Try.underlying24 rfl (by kernel_rfl) ?_)
        | (go_at_call 10; (with_reducible refine ((unhide HP) _ A c w.heap.size (hr.below (unhide HM0).below) (unhide HM0).size).mono ?_); rintro _ w1 ⟨A1, c1, rfl, hown1, hbel1, hcc1⟩; have HM1 := hide ((unhide HM0).called hbel1); clear hown1 hbel1)
        | (go_at_call 12; refine (unhide HA _).mono ?_; rintro _ w7 ⟨rfl, hb7⟩; have HM7 := hide ((unhide HM1).called hb7); clear hb7))
      go_ret
      exact ⟨rfl, (unhide HM7).below⟩
  · obtain ⟨p, rfl⟩ := Int.eq_ofNat_of_zero_le (show 0 ≤ at_ by omega)
    have hpl : (p : Int) < (x.length : Int) := by omega
    clear hat
    go_enter Try.func6, Try.ntmps6
    go_wp2_with (first
      | (refine wpList_load_blk rfl 24 (.tmp 3) rfl (w.heap.size) rfl 24 _ _ ((unhide HM0).blk0) Try.underlying24 rfl (by kernel_rfl) ?_)
      | (go_at_call 10; (with_reducible refine ((unhide HP) _ A c w.heap.size (hr.below (unhide HM0).below) (unhide HM0).size).mono ?_); rintro _ w1 ⟨A1, c1, rfl, hown1, hbel1, hcc1⟩
         have HM1 := hide ((unhide HM0).called hbel1); have HR1 := hide (RdB.of_own hown1)
         have HOn := hide (own_new w1 w1.heap.size #[] 5 0 [] (Nat.le_refl _) (by simp [maxLen]) rfl rfl)
         have HV1 := hide ((unhide HR1).alloc (Nat.le_refl _) (.cells #[] 5)).v; clear hown1 hbel1)
      | (at_builtin
         refine wpList_append_any _ rfl (.tmp 32) (.tmp 33) _ rfl w1.heap.size 5 i0 _ 1 1 Try.underlying22 hi hz0 hz1 hz2 rfl (by omega) _ 0 [] rfl
           (unhide HOn) _ A1 x.length c1 _ rfl (unhide HV1) (by simp) oneCell_Bv (by simp only [maxLen]; omega) (by omega) (by simp) ?_
         intro A4 c4 w4 hown4 hg4 hat4 hbel4 hcc4
         rw [Nat.zero_add, List.nil_append] at hown4; rw [Nat.zero_add] at hcc4 ⊢))
    have hgg : ∃ g, A4 = some ⟨g, 0, none⟩ ∧ w1.heap.size ≤ g ∧ g < w4.heap.size := by
      obtain ⟨g, cap, hv, hbg, hlt⟩ := hown4.form (by omega)
      exact ⟨g, by injection hv, hbg, hlt⟩
    obtain ⟨g, rfl, hg1, hg2⟩ := hgg
    have HB := hide ((unhide HM1).below.trans (((Below.refl _ w1).alloc (Nat.le_refl _) (.cells #[] 5) |>.trans hbel4).mono (unhide HM1).size))
    have hgw : w.heap.size ≤ g := Nat.le_trans (unhide HM1).size hg1
    clear hbel4 hg4 hat4 HR1 HOn HV1
    go_loopw [10, 11] (fun u i wr => ∃ k : Nat, k ≤ 4 ∧ p + k ≤ x.length ∧ i = .int .i64 k ∧ u = .bool ((List.range k).any fun j => bitsAt bits j != 0) ∧
        wr.ownsRow w1.heap.size 5 1 (.slice (some ⟨g, 0, none⟩) x.length c4) x.length ((Crc.turnedBy x p k (bitsAt bits)).map Bv) ∧ Below w.heap.size w wr) (fun _ i _ => 4 - (intOf i).toNat)
    case atStart => exact ⟨0, by omega, by omega, rfl, rfl, by rw [Crc.turnedBy_zero]; exact hown4, unhide HB⟩
    case round =>
      obtain ⟨k, hk, htk, rfl, rfl, hrow, hbr⟩ := hrel
      by_cases hgo : k < 4 ∧ p + k < x.length
      · obtain ⟨hk4, htl⟩ := hgo
        have hcell := (hrow.cellAt (p + k) (by omega)).trans (by rw [List.getElem?_map, List.getElem?_eq_getElem (by rw [Crc.turnedBy_length]; exact htl), Crc.turnedBy_here _ _ _ _ htl]; rfl : _ = some (.int .u8 (x[p + k].toNat : Int)))
        have hfz := hrow.frozenAt (p + k)
        have HRow := hide hrow
        have HBr := hide hbr
        clear hrow hbr hown4
        have HU := hide (any_range_succ k fun j => bitsAt bits j != 0)
        generalize ((List.range k).any fun j => bitsAt bits j != 0) = u at HU ⊢
        go_wp2_with fail
        go_region
        go_wp2_with fail
        all_goals
          refine ⟨⟨k + 1, by omega, by omega, by go_num, congrArg Value.bool ?_, ?_, ((unhide HBr).setCell hgw _).drew⟩, by simp [intOf]; omega⟩
          · rw [unhide HU]; simp [*, bitsAt_ne]
          · have := ((unhide HRow).stored (p + k) (Bv (x[p + k] ^^^ bitsAt bits k))).1.drew
            rw [← List.map_set, Crc.turnedBy_set _ _ _ _ htl] at this
            rw [xor_byte8]
            exact this
      · have HRow := hide (RdB.of_own hrow)
        have hcap := own_cap hrow
        have hcl : x.length ≤ c4 := hcc4
        have HBr := hide hbr
        have HSz := hide hbr.size
        have HMr := hide ((unhide HM0).tail)
        clear hrow hbr hown4
        have hlen := Crc.turnedBy_length x p k (bitsAt bits)
        cases hu : ((List.range k).any fun j => bitsAt bits j != 0) with
        | false =>
          have hsame := Frm.turned_same x p k (bitsAt bits) (any_none hu)
          rw [hsame] at HRow
          have hlen2 := hide hlen
          clear hlen hsame hu
          by_cases hk4 : k < 4
          · have ht : decide ((p : Int) + (k : Int) < (x.length : Int)) = false := by simp; omega
            go_wp2_with (first
              | (go_at_call 14; refine ((unhide HX) wr (some ⟨g, 0, none⟩) c4 _ (unhide HRow) (Nat.le_refl _) hcl hcap).mono ?_; rintro _ w5 ⟨A5, c5, rfl, hown5, hbel5⟩
                 have HB5 := hide ((unhide HBr).trans (hbel5.mono (unhide HSz))); clear hown5 hbel5)
              | (go_at_call 12; refine (unhide HA _).mono ?_; rintro _ w7 ⟨rfl, hb7⟩
                 have HB7 := hide (((unhide HB5).alloc (unhide HB5).size _).trans (hb7.mono (by have := (unhide HB5).size; simp; omega))); clear hb7))
            go_ret
            exact ⟨rfl, unhide HB7⟩
          · obtain rfl : k = 4 := by omega
            go_wp2_with (first
              | (go_at_call 14; refine ((unhide HX) wr (some ⟨g, 0, none⟩) c4 _ (unhide HRow) (Nat.le_refl _) hcl hcap).mono ?_; rintro _ w5 ⟨A5, c5, rfl, hown5, hbel5⟩
                 have HB5 := hide ((unhide HBr).trans (hbel5.mono (unhide HSz))); clear hown5 hbel5)
              | (go_at_call 12; refine (unhide HA _).mono ?_; rintro _ w7 ⟨rfl, hb7⟩
                 have HB7 := hide (((unhide HB5).alloc (unhide HB5).size _).trans (hb7.mono (by have := (unhide HB5).size; simp; omega))); clear hb7))
            go_ret
            exact ⟨rfl, unhide HB7⟩
        | true =>
          obtain ⟨er, her, hne⟩ := (unhide HT) p k (bitsAt bits) hk htk (any_some hu)
          have HY := hide (unpack_zeroC her wr (some ⟨g, 0, none⟩) x.length c4 _ (unhide HRow) (Nat.le_refl _) hlen hcl hcap)
          have hx1 : (er != 0) = true := by simp [hne]
          have hx2 : (er == 0) = false := beq_eq_false_iff_ne.2 hne
          clear hlen hu her hne
          by_cases hk4 : k < 4
          · have ht : decide ((p : Int) + (k : Int) < (x.length : Int)) = false := by simp; omega
            go_wp2_with (first
              | (go_at_call 14; refine (unhide HY).mono ?_; rintro _ w5 ⟨A5, c5, rfl, hbel5⟩
                 have HB5 := hide ((unhide HBr).trans (hbel5.mono (unhide HSz))); have HM5 := hide ((Mem.start w5).new (t := 24) (cs := #[.int .i64 0, .int .i64 0, .int .i64 0, .int .i64 0, .slice A5 0 c5]) w5.heap.size rfl); clear hbel5)
              | (go_at_call 12; refine (unhide HA _).mono ?_; rintro _ w7 ⟨rfl, hb7⟩
                 have HB7 := hide (((unhide HB5).alloc (unhide HB5).size _).trans (hb7.mono (by have := (unhide HB5).size; simp; omega))); have HM7 := hide ((unhide HM5).called hb7); have fc1 := Frm.cellsAt (unhide HM7).blk0; clear hb7)
              | (go_at_call 16; refine ((unhide HF) A5 none 0 0 c5 0 0 0 w7 (fun h => absurd h (by simp [Frm.F.zero])) (fun h => absurd h (by simp [Frm.F.zero])) (Nat.zero_le _) (Nat.zero_le _) rfl rfl).mono ?_; rintro _ w8 ⟨rfl, hb8⟩
                 have HB8 := hide ((unhide HB7).trans (hb8.mono (unhide HB7).size)); clear hb8))
            go_ret
            exact ⟨rfl, unhide HB8⟩
          · obtain rfl : k = 4 := by omega
            go_wp2_with (first
              | (go_at_call 14; refine (unhide HY).mono ?_; rintro _ w5 ⟨A5, c5, rfl, hbel5⟩
                 have HB5 := hide ((unhide HBr).trans (hbel5.mono (unhide HSz))); have HM5 := hide ((Mem.start w5).new (t := 24) (cs := #[.int .i64 0, .int .i64 0, .int .i64 0, .int .i64 0, .slice A5 0 c5]) w5.heap.size rfl); clear hbel5)
              | (go_at_call 12; refine (unhide HA _).mono ?_; rintro _ w7 ⟨rfl, hb7⟩
                 have HB7 := hide (((unhide HB5).alloc (unhide HB5).size _).trans (hb7.mono (by have := (unhide HB5).size; simp; omega))); have HM7 := hide ((unhide HM5).called hb7); have fc1 := Frm.cellsAt (unhide HM7).blk0; clear hb7)
              | (go_at_call 16; refine ((unhide HF) A5 none 0 0 c5 0 0 0 w7 (fun h => absurd h (by simp [Frm.F.zero])) (fun h => absurd h (by simp [Frm.F.zero])) (Nat.zero_le _) (Nat.zero_le _) rfl rfl).mono ?_; rintro _ w8 ⟨rfl, hb8⟩
                 have HB8 := hide ((unhide HB7).trans (hb8.mono (unhide HB7).size)); clear hb8))
            go_ret
            exact ⟨rfl, unhide HB8⟩
set_option maxHeartbeats 1000000 in
set_option maxRecDepth 20000 in
theorem frameBursts_bad (f : Frm.F) (A : Option Addr) (c : Nat) (at_ : Int) (bits : BitVec 32) (w : World) (hr : RdB w w.heap.size A f.body) (hb63 : f.body.length ≤ 9223372036854775807) (er : Int) (hp : Frm.pack f = ([], er)) (he : er ≠ 0) :
    Calls Try.prog 6 #[.agg #[.int .i64 f.ver, .int .i64 f.epoch, .int .i64 f.seq, .int .i64 f.ack, .slice A f.body.length c], .int .i64 at_, .int .u32 (bits.toNat : Int)] w fun e' w' => e' = .returned (.bool true) ∧ Below w.heap.size w w' := by
  have HM0 := hide ((Mem.start w).new (t := 24) (cs := #[.int .i64 f.ver, .int .i64 f.epoch, .int .i64 f.seq, .int .i64 f.ack, .slice A f.body.length c]) w.heap.size rfl)
  have HA := hide awake_any
  have HP := hide (pack_any f A c w.heap.size _ (hr.below (unhide HM0).below) (unhide HM0).size hb63)
  rw [hp] at HP
  have hx : (er != 0) = true := by simp [he]
  clear hp he
  go_enter Try.func6, Try.ntmps6
  go_wp2_with (first
    | (refine wpList_load_blk rfl 24 (.tmp 3) rfl (w.heap.size) rfl 24 _ _ ((unhide HM0).blk0) Try.underlying24 rfl (by kernel_rfl) ?_)
    | (go_at_call 10; refine (unhide HP).mono ?_; rintro _ w1 ⟨A1, c1, rfl, hown1, hbel1, hcc1⟩; have HM1 := hide ((unhide HM0).called hbel1); clear hown1 hbel1 hcc1)
    | (go_at_call 12; refine (unhide HA _).mono ?_; rintro _ w7 ⟨rfl, hb7⟩; have HM7 := hide ((unhide HM1).called hb7); clear hb7))
  go_ret
  exact ⟨rfl, (unhide HM7).below⟩
theorem frameBursts_any (f : Frm.F) (A : Option Addr) (c : Nat) (at_ : Int) (bits : BitVec 32) (w : World) (hr : RdB w w.heap.size A f.body) (hlc : f.body.length ≤ c) (hc : c ≤ 140737488351232) :
    Calls Try.prog 6 #[Frm.val f A c, .int .i64 at_, .int .u32 (bits.toNat : Int)] w fun e' w' => e' = .returned (.bool true) ∧ Below w.heap.size w w' := by
  by_cases h : (Frm.pack f).2 = 0
  · obtain ⟨v, e, s, a, hf, hg⟩ := Frm.good_of h
    generalize f.body = b at *
    subst hf
    exact frameBursts_ok v e s a b A c at_ bits w hg hr
  · obtain ⟨er, hp, he⟩ := Frm.bad_of h
    exact frameBursts_bad f A c at_ bits w hr (by omega) er hp he
end Go.Proofs.Ytjlmcjegfbnhpaa
