/- The walks of the sum: Step, More of the document, More, Of. -/
import Derived.Test.YtjlmcjegfbnhpaaBase
import Derived.Test.YtjlmcjegfbnhpaaSumMath
namespace Go.Proofs.Ytjlmcjegfbnhpaa
set_option linter.unusedVariables false
open Go.RowKit

theorem step_toNat (s : BitVec 32) : (Crc.step s).toNat = if s.toNat % 2 = 1 then s.toNat / 2 ^^^ 3988292384 else s.toNat / 2 := by
  unfold Crc.step
  rw [BitVec.toNat_xor, BitVec.toNat_ushiftRight, Nat.shiftRight_eq_div_pow]
  have h : s.getLsbD 0 = decide (s.toNat % 2 = 1) := by simp [BitVec.getLsbD, Nat.testBit_zero]
  rw [h]
  by_cases h1 : s.toNat % 2 = 1
  · simp [h1, Crc.poly]
  · simp [h1]
theorem step_odd {s : BitVec 32} (h : ((s.toNat : Int) % 2 == 1) = true) : bits BinOp.xor IntKind.u32 ((s.toNat : Int) / 2) 3988292384 = ((Crc.step s).toNat : Int) := by
  have hs := s.isLt
  have e := u32_xor_nat (s.toNat / 2) 3988292384 (by omega) (by omega)
  rw [step_toNat, if_pos (by simp at h; omega), ← e]
  rfl
theorem step_even {s : BitVec 32} (h : ((s.toNat : Int) % 2 == 1) = false) : ((s.toNat : Int) / 2) = ((Crc.step s).toNat : Int) := by
  rw [step_toNat, if_neg (by simp at h; omega)]
  omega
theorem xor_all (s : BitVec 32) : bits BinOp.xor IntKind.u32 (s.toNat : Int) 4294967295 = ((~~~ s).toNat : Int) := by
  have hs := s.isLt
  have e := u32_xor_nat s.toNat 4294967295 (by omega) (by omega)
  have h : ~~~ s = s ^^^ 4294967295#32 := by
    have := (BitVec.xor_allOnes (x := s)).symm
    simpa using this
  rw [h, BitVec.toNat_xor]
  exact e
theorem xor_byte (s : BitVec 32) (b : UInt8) : bits BinOp.xor IntKind.u32 (s.toNat : Int) (b.toNat : Int) = ((s ^^^ b.toBitVec.setWidth 32).toNat : Int) := by
  have hs := s.isLt
  have hb := b.toNat_lt
  have e := u32_xor_nat s.toNat b.toNat (by omega) (by omega)
  rw [e, BitVec.toNat_xor, BitVec.toNat_setWidth]
  congr 2
  have h : b.toBitVec.toNat = b.toNat := rfl
  rw [h]; omega

set_option maxHeartbeats 400000 in
theorem step_any (s : BitVec 32) (w : World) :
    Calls Try.prog 27 #[.int .u32 (s.toNat : Int)] w fun e w' => e = .returned (.int .u32 ((Crc.step s).toNat : Int)) ∧ w = w' := by
  have hs := s.isLt
  go_enter Try.func27, Try.ntmps27
  go_wp2
  · go_ret
    exact ⟨ret_eq (congrArg (Value.int .u32) (step_odd (by assumption))), rfl⟩
  · go_ret
    exact ⟨ret_eq (congrArg (Value.int .u32) (step_even (by assumption))), rfl⟩

theorem xor_max (s : BitVec 32) : bits BinOp.xor IntKind.u32 IntKind.u32.max (s.toNat : Int) = ((~~~ s).toNat : Int) := by
  have hs := s.isLt
  have e := u32_xor_nat 4294967295 s.toNat (by omega) (by omega)
  have h : ~~~ s = 4294967295#32 ^^^ s := by
    have := (BitVec.xor_allOnes (x := s)).symm
    rw [BitVec.xor_comm] at this
    simpa using this
  rw [h, BitVec.toNat_xor]
  exact e
theorem odd_spell (s : BitVec 32) : (bits BinOp.and IntKind.u32 (s.toNat : Int) 1 == 1) = ((s.toNat : Int) % 2 == 1) := by
  have hs := s.isLt
  have e := u32_and_nat s.toNat 1 (by omega) (by omega)
  rw [nat_mask1] at e
  have e' : bits BinOp.and IntKind.u32 (s.toNat : Int) 1 = ((s.toNat % 2 : Nat) : Int) := e
  rw [e']
  rfl

set_option maxHeartbeats 400000 in
theorem more_any (s : BitVec 32) (l : List UInt8) (A : Option Addr) (c B : Nat) (w : World) (hr : RdB w B A l) (hl : l.length ≤ maxLen) :
    Calls Try.prog 26 #[.int .u32 (s.toNat : Int), .slice A l.length c] w fun e w' => e = .returned (.int .u32 ((Crc.more s l).toNat : Int)) ∧ w = w' := by
  unfold maxLen at hl
  have hs := s.isLt
  go_enter Try.func26, Try.ntmps26
  go_wp2
  go_loop [0, 11] (fun t i => ∃ k : Nat, k ≤ l.length ∧ i = .int .i64 k ∧ t = .int .u32 ((Crc.raw (~~~ s) (l.take k)).toNat : Int)) (fun _ i => l.length - (intOf i).toNat)
  case atStart => exact ⟨0, Nat.zero_le _, rfl, congrArg (Value.int .u32) (xor_max s)⟩
  case round =>
    obtain ⟨k, hk, rfl, rfl⟩ := hrel
    by_cases hlt : k < l.length
    · obtain ⟨ad, rfl, hc⟩ := hr.at_ hlt
      have hb := (l[k]).toNat_lt
      have H := Lib.hid (show Crc.raw (~~~ s) (l.take (k + 1)) = Crc.byteIn (Crc.raw (~~~ s) (l.take k)) l[k] by rw [List.take_succ_eq_append_getElem hlt, Crc.raw_snoc])
      generalize (Crc.raw (~~~ s) (l.take k)) = t at H ⊢
      have ht := t.isLt
      go_wp2
      go_loop [0, 19] (fun u i => ∃ j : Nat, j ≤ 8 ∧ i = .int .i64 j ∧ u = .int .u32 ((Crc.stepN j (t ^^^ (l[k]).toBitVec.setWidth 32)).toNat : Int)) (fun _ i => 8 - (intOf i).toNat)
      case atStart => exact ⟨0, by omega, rfl, congrArg (Value.int .u32) (xor_byte t _)⟩
      case round =>
        obtain ⟨j, hj, rfl, rfl⟩ := hrel
        have HS := Lib.hid (Crc.stepN_succ j (t ^^^ (l[k]).toBitVec.setWidth 32))
        by_cases hj8 : j < 8
        · generalize Crc.stepN j (t ^^^ (l[k]).toBitVec.setWidth 32) = u at HS ⊢
          have hu := u.isLt
          go_wp2
          · go_round
            case rel => exact ⟨j + 1, by omega, by go_num, by rw [HS.out]; exact congrArg (Value.int .u32) (step_odd (by rw [← odd_spell]; assumption))⟩
            case measure => simp [intOf]; omega
          · go_round
            case rel => exact ⟨j + 1, by omega, by go_num, by rw [HS.out]; exact congrArg (Value.int .u32) (step_even (by rw [← odd_spell]; assumption))⟩
            case measure => simp [intOf]; omega
        · obtain rfl : j = 8 := by omega
          go_wp2
          go_round
          case rel => exact ⟨k + 1, by omega, by go_num, by rw [H.out]; rfl⟩
          case measure => simp [intOf]; omega
    · obtain rfl : k = l.length := by omega
      have H := Lib.hid (show Crc.more s l = ~~~ Crc.raw (~~~ s) l from rfl)
      rw [List.take_length]
      generalize (Crc.raw (~~~ s) l) = t at H ⊢
      have ht := t.isLt
      go_wp2
      go_ret
      exact ⟨ret_eq (by rw [H.out]; exact congrArg (Value.int .u32) (xor_max t)), rfl⟩

theorem more_n (s : BitVec 32) (l : List UInt8) (A : Option Addr) (n c B : Nat) (w : World) (hr : RdB w B A l) (hn : l.length = n) (hl : n ≤ 140737488351232) :
    Calls Try.prog 26 #[.int .u32 (s.toNat : Int), .slice A n c] w fun e w' => e = .returned (.int .u32 ((Crc.more s l).toNat : Int)) ∧ w = w' := by
  subst hn
  exact more_any s l A c B w hr (by unfold maxLen; omega)

set_option maxHeartbeats 400000 in
theorem ref_more_any (s : BitVec 32) (l : List UInt8) (A : Option Addr) (c B : Nat) (w : World) (hr : RdB w B A l) (hl : l.length ≤ maxLen) :
    Calls Try.prog 22 #[.int .u32 (s.toNat : Int), .slice A l.length c] w fun e w' => e = .returned (.int .u32 ((Crc.more s l).toNat : Int)) ∧ w = w' := by
  unfold maxLen at hl
  have hs := s.isLt
  go_enter Try.func22, Try.ntmps22
  go_wp2
  go_loop [0, 5] (fun t i => ∃ k : Nat, k ≤ l.length ∧ i = .int .i64 k ∧ t = .int .u32 ((Crc.raw (~~~ s) (l.take k)).toNat : Int)) (fun _ i => l.length - (intOf i).toNat)
  case atStart => exact ⟨0, Nat.zero_le _, rfl, congrArg (Value.int .u32) (xor_all s)⟩
  case round =>
    obtain ⟨k, hk, rfl, rfl⟩ := hrel
    by_cases hlt : k < l.length
    · obtain ⟨ad, rfl, hc⟩ := hr.at_ hlt
      have hb := (l[k]).toNat_lt
      have H := Lib.hid (show Crc.raw (~~~ s) (l.take (k + 1)) = Crc.byteIn (Crc.raw (~~~ s) (l.take k)) l[k] by rw [List.take_succ_eq_append_getElem hlt, Crc.raw_snoc])
      generalize (Crc.raw (~~~ s) (l.take k)) = t at H ⊢
      have ht := t.isLt
      go_wp2
      go_loop [0, 6] (fun u i => ∃ j : Nat, j ≤ 8 ∧ i = .int .i64 j ∧ u = .int .u32 ((Crc.stepN j (t ^^^ (l[k]).toBitVec.setWidth 32)).toNat : Int)) (fun _ i => 8 - (intOf i).toNat)
      case atStart => exact ⟨0, by omega, rfl, congrArg (Value.int .u32) (xor_byte t _)⟩
      case round =>
        obtain ⟨j, hj, rfl, rfl⟩ := hrel
        have HS := Lib.hid (Crc.stepN_succ j (t ^^^ (l[k]).toBitVec.setWidth 32))
        by_cases hj8 : j < 8
        · generalize Crc.stepN j (t ^^^ (l[k]).toBitVec.setWidth 32) = u at HS ⊢
          have hu := u.isLt
          go_wp2_with (go_at_call 27; refine (step_any _ _).mono ?_; rintro e w' ⟨rfl, rfl⟩)
          go_round
          case rel => exact ⟨j + 1, by omega, by go_num, by rw [HS.out]⟩
          case measure => simp [intOf]; omega
        · obtain rfl : j = 8 := by omega
          go_wp2
          go_round
          case rel => exact ⟨k + 1, by omega, by go_num, by rw [H.out]; rfl⟩
          case measure => simp [intOf]; omega
    · obtain rfl : k = l.length := by omega
      have H := Lib.hid (show Crc.more s l = ~~~ Crc.raw (~~~ s) l from rfl)
      rw [List.take_length]
      generalize (Crc.raw (~~~ s) l) = t at H ⊢
      have ht := t.isLt
      go_wp2
      go_ret
      exact ⟨ret_eq (by rw [H.out]; exact congrArg (Value.int .u32) (xor_all t)), rfl⟩

set_option maxHeartbeats 400000 in
theorem of_any (l : List UInt8) (A : Option Addr) (c B : Nat) (w : World) (hr : RdB w B A l) (hl : l.length ≤ maxLen) :
    Calls Try.prog 20 #[.slice A l.length c] w fun e w' => e = .returned (.int .u32 ((Crc.more 0#32 l).toNat : Int)) ∧ w = w' := by
  have H := hide (more_any 0#32 l A c B w hr hl)
  clear hr
  go_enter Try.func20, Try.ntmps20
  go_wp2_with (go_at_call 26; refine (unhide H).mono ?_; rintro e w' ⟨rfl, rfl⟩)
  go_ret
  exact ⟨rfl, rfl⟩
theorem of_n (l : List UInt8) (A : Option Addr) (n c B : Nat) (w : World) (hr : RdB w B A l) (hn : l.length = n) (hl : n ≤ 140737488351232) :
    Calls Try.prog 20 #[.slice A n c] w fun e w' => e = .returned (.int .u32 ((Crc.more 0#32 l).toNat : Int)) ∧ w = w' := by
  subst hn
  exact of_any l A c B w hr (by unfold maxLen; omega)
end Go.Proofs.Ytjlmcjegfbnhpaa
