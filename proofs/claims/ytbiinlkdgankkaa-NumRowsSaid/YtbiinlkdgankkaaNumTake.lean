/- The walks of num and of the document's num: reading short numbers. -/
import Derived.Test.YtbiinlkdgankkaaMem
import Derived.Test.YtbiinlkdgankkaaNumMath
namespace Go.Proofs.Ytbiinlkdgankkaa
set_option linter.unusedVariables false
open Go.RowKit

theorem Num.on_lt {n k c : Nat} (hn : n < 128 ^ k) (hc : c < 256) (hk : k < 9) : n + (c - 128) * 128 ^ k < 128 ^ (k + 1) := by
  have h1 : (c - 128) * 128 ^ k ≤ 127 * 128 ^ k := Nat.mul_le_mul_right _ (by omega)
  have h2 : 128 ^ (k + 1) = 128 * 128 ^ k := by rw [Nat.pow_succ, Nat.mul_comm]
  omega
theorem Num.tup3 {a a' b b' c c' : Int} (h1 : a = a') (h2 : b = b') (h3 : c = c') : Value.tuple #[.int .u64 a, .int .i64 b, .int .i64 c] = Value.tuple #[.int .u64 a', .int .i64 b', .int .i64 c'] := by
  rw [h1, h2, h3]
theorem Num.pow7 (k : Nat) : (2 : Nat) ^ (7 * k) = 128 ^ k := by rw [Nat.pow_mul]
/-- what fits: d in seven bits (one, at the tenth place) -/
theorem Num.fits {n k d : Nat} (hn : n < 128 ^ k) (hd : (k < 9 ∧ d < 128) ∨ (k = 9 ∧ d ≤ 1)) : n + d * 128 ^ k < 18446744073709551616 := by
  rcases hd with ⟨h1, h2⟩ | ⟨rfl, h2⟩
  · have a1 : d * 128 ^ k ≤ 127 * 128 ^ k := Nat.mul_le_mul_right _ (by omega)
    have a2 : 128 ^ (k + 1) = 128 * 128 ^ k := by rw [Nat.pow_succ, Nat.mul_comm]
    have a3 : 128 ^ (k + 1) ≤ 128 ^ 9 := Nat.pow_le_pow_right (by omega) (by omega)
    have a4 := Num.pow9
    omega
  · have a1 : d * 128 ^ 9 ≤ 1 * 128 ^ 9 := Nat.mul_le_mul_right _ h2
    have a4 := Num.pow9
    omega
theorem Num.and127 {c : Nat} (hc : c < 256) : bits BinOp.and IntKind.u8 (c : Int) 127 = ((c % 128 : Nat) : Int) := by
  have e := u8_and_nat c 127 hc (by omega)
  rw [nat_mask7] at e
  exact e
theorem Num.wrap_nat {x : Nat} (h : x < 18446744073709551616) : IntKind.u64.wrap (x : Int) = (x : Int) := by
  rw [IntKind.wrap_u64]
  omega
theorem Num.shl_any {n k c d : Nat} (hn : n < 128 ^ k) (hc : c < 256) (hd : (k < 9 ∧ d < 128) ∨ (k = 9 ∧ d ≤ 1)) (he : c % 128 = d) :
    bits BinOp.or IntKind.u64 (n : Int) (IntKind.u64.wrap (IntKind.u64.wrap (bits BinOp.and IntKind.u8 (c : Int) 127) * 2 ^ (7 * k))) = ((n + d * 128 ^ k : Nat) : Int) := by
  have hf := Num.fits hn hd
  have e1 : ((d : Nat) : Int) * 2 ^ (7 * k) = ((d * 128 ^ k : Nat) : Int) := by rw [← Num.pow7, Int.natCast_mul, Int.natCast_pow]; rfl
  rw [Num.and127 hc, he, Num.wrap_nat (by omega), e1, Num.wrap_nat (by omega), u64_or_nat _ _ (by omega) (by omega)]
  congr 1
  rw [Nat.or_comm, nat_join (7 * k) (d * 128 ^ k) n (by rw [Num.pow7]; exact Nat.mul_mod_left _ _) (by rw [Num.pow7]; exact hn)]
  omega
theorem Num.shl_end {n k c : Nat} (hn : n < 128 ^ k) (hc : c < 128) (hk : k < 9 ∨ (k = 9 ∧ c ≤ 1)) :
    bits BinOp.or IntKind.u64 (n : Int) (IntKind.u64.wrap (IntKind.u64.wrap (bits BinOp.and IntKind.u8 (c : Int) 127) * 2 ^ (7 * k))) = ((n + c * 128 ^ k : Nat) : Int) :=
  Num.shl_any hn (by omega) (by omega) (by omega)
theorem Num.shl_on {n k c : Nat} (hn : n < 128 ^ k) (hc : 128 ≤ c) (hb : c < 256) (hk : k < 9) :
    bits BinOp.or IntKind.u64 (n : Int) (IntKind.u64.wrap (IntKind.u64.wrap (bits BinOp.and IntKind.u8 (c : Int) 127) * 2 ^ (7 * k))) = ((n + (c - 128) * 128 ^ k : Nat) : Int) :=
  Num.shl_any hn (by omega) (by omega) (by omega)

set_option maxHeartbeats 1000000 in
set_option maxRecDepth 20000 in
theorem takeUvar_any (l : List UInt8) (A : Option Addr) (c B : Nat) (w : World) (hr : RdB w B A l) (hl : l.length ≤ 4611686018427387904) :
    Calls Try.prog 11 #[.slice A l.length c] w fun e w' => e = .returned (.tuple #[.int .u64 ((Num.take l).1 : Int), .int .i64 ((Num.take l).2.1 : Int), .int .i64 (Num.take l).2.2]) ∧ w = w' := by
  go_enter Try.func11, Try.ntmps11
  go_wp2
  go_loop [5, 10] (fun t i => ∃ k n : Nat, k ≤ l.length ∧ k ≤ 9 ∧ Num.take l = Num.tk k n (l.drop k) ∧ n < 128 ^ k ∧ i = .int .i64 k ∧ t = .int .u64 (n : Int)) (fun _ i => l.length - (intOf i).toNat)
  case atStart => exact ⟨0, 0, by omega, by omega, rfl, by omega, rfl, rfl⟩
  case round =>
    obtain ⟨k, n, hk, hk9, HT, hn, rfl, rfl⟩ := hrel
    by_cases hlt : k < l.length
    · obtain ⟨ad, rfl, hc⟩ := hr.at_ hlt
      rw [Num.drop_cons l k hlt] at HT
      generalize l[k] = c at hc HT
      have hb : c.toNat < 256 := c.toNat_lt
      have HH := hide HT
      have HNN := hide hn
      clear HT hn
      rcases Nat.lt_or_ge k 9 with h9 | h9
      · rcases Nat.lt_or_ge 0 k with k0 | k0
        · rcases Nat.lt_or_ge 0 c.toNat with c0 | c0
          · rcases Nat.lt_or_ge c.toNat 128 with c8 | c8
            · have HF := hide ((unhide HH).trans (Num.tk_end (by omega) c8))
              have HN := hide (Num.shl_end (unhide HNN) c8 (.inl h9))
              go_wp2
              go_ret3
              exact ⟨ret_eq (by rw [unhide HF]; exact Num.tup3 (unhide HN) rfl rfl), rfl⟩
            · have HF := hide ((unhide HH).trans (Num.tk_on (by omega) c8))
              have HN := hide (Num.shl_on (unhide HNN) c8 hb h9)
              go_wp2
              go_round
              case rel => exact ⟨k + 1, _, by omega, by omega, unhide HF, Num.on_lt (unhide HNN) hb h9, by go_num, congrArg (Value.int .u64) (unhide HN)⟩
              case measure => simp [intOf]; omega
          · have HF := hide ((unhide HH).trans (Num.tk_bad (.inr ⟨k0, by omega⟩)))
            go_wp2
            go_ret3
            exact ⟨ret_eq (by rw [unhide HF]; rfl), rfl⟩
        · rcases Nat.lt_or_ge c.toNat 128 with c8 | c8
          · have HF := hide ((unhide HH).trans (Num.tk_end (by omega) c8))
            have HN := hide (Num.shl_end (unhide HNN) c8 (.inl h9))
            go_wp2
            all_goals go_ret3
            all_goals exact ⟨ret_eq (by rw [unhide HF]; exact Num.tup3 (unhide HN) rfl rfl), rfl⟩
          · have HF := hide ((unhide HH).trans (Num.tk_on (by omega) c8))
            have HN := hide (Num.shl_on (unhide HNN) c8 hb h9)
            go_wp2
            all_goals go_round
            case rel => exact ⟨k + 1, _, by omega, by omega, unhide HF, Num.on_lt (unhide HNN) hb h9, by go_num, congrArg (Value.int .u64) (unhide HN)⟩
            case measure => simp [intOf]; omega
      · have b9 : ((k : Int) == 9) = true := beq_iff_eq.2 (by omega)
        have b0 : decide (0 < (k : Int)) = true := decide_eq_true (by omega)
        rcases Nat.lt_or_ge 1 c.toNat with c1 | c1
        · have b1 : decide (1 < (c.toNat : Int)) = true := decide_eq_true (by omega)
          have b2 : ((c.toNat : Int) == 0) = false := beq_eq_false_iff_ne.2 (by omega)
          have HF := hide ((unhide HH).trans (Num.tk_bad (.inl ⟨by omega, c1⟩)))
          go_wp2
          all_goals go_ret3
          all_goals exact ⟨ret_eq (by rw [unhide HF]; rfl), rfl⟩
        · have b1 : decide (1 < (c.toNat : Int)) = false := decide_eq_false (by omega)
          rcases Nat.lt_or_ge 0 c.toNat with c0 | c0
          · have b2 : ((c.toNat : Int) == 0) = false := beq_eq_false_iff_ne.2 (by omega)
            have HF := hide ((unhide HH).trans (Num.tk_end (by omega) (by omega)))
            have HN := hide (Num.shl_end (unhide HNN) (show c.toNat < 128 by omega) (.inr ⟨by omega, c1⟩))
            go_wp2
            go_ret3
            exact ⟨ret_eq (by rw [unhide HF]; exact Num.tup3 (unhide HN) rfl rfl), rfl⟩
          · have b2 : ((c.toNat : Int) == 0) = true := beq_iff_eq.2 (by omega)
            have HF := hide ((unhide HH).trans (Num.tk_bad (.inr ⟨by omega, by omega⟩)))
            go_wp2
            go_ret3
            exact ⟨ret_eq (by rw [unhide HF]; rfl), rfl⟩
    · have HF := hide HT
      have hd : l.drop k = [] := List.drop_of_length_le (by omega)
      rw [hd] at HF
      clear HT hd hn
      go_wp2
      go_ret3
      exact ⟨ret_eq (by rw [unhide HF]; rfl), rfl⟩
end Go.Proofs.Ytbiinlkdgankkaa
