/- The walk of the document's num: reading short numbers. -/
import Derived.Test.YtbiinlkdgankkaaNumTake
namespace Go.Proofs.Ytbiinlkdgankkaa
set_option linter.unusedVariables false
open Go.RowKit

theorem Num.by_step {p k : Nat} (hp : p = 128 ^ k) (hk : k < 9) : IntKind.u64.wrap ((p : Int) * 128) = ((128 ^ (k + 1) : Nat) : Int) := by
  have a3 : 128 ^ (k + 1) ≤ 128 ^ 9 := Nat.pow_le_pow_right (by omega) (by omega)
  have a4 := Num.pow9
  have e : ((p : Int) * 128) = ((128 ^ (k + 1) : Nat) : Int) := by rw [hp, Nat.pow_succ, Int.natCast_mul]; rfl
  rw [e, Num.wrap_nat (by omega)]
theorem Num.mul_any {p n k c d : Nat} (hp : p = 128 ^ k) (hn : n < 128 ^ k) (hd : (k < 9 ∧ d < 128) ∨ (k = 9 ∧ d ≤ 1)) (he : c % 128 = d) :
    IntKind.u64.wrap ((n : Int) + IntKind.u64.wrap ((p : Int) * ((c : Int) % 128))) = ((n + d * 128 ^ k : Nat) : Int) := by
  have hf := Num.fits hn hd
  have e1 : ((p : Int) * ((c : Int) % 128)) = ((d * 128 ^ k : Nat) : Int) := by rw [hp, ← he, Nat.mul_comm, Int.natCast_mul, Int.natCast_emod]; rfl
  have e2 : ((n : Int) + ((d * 128 ^ k : Nat) : Int)) = ((n + d * 128 ^ k : Nat) : Int) := (Int.natCast_add _ _).symm
  rw [e1, Num.wrap_nat (by omega), e2, Num.wrap_nat hf]
theorem Num.mul_end {p n k c : Nat} (hp : p = 128 ^ k) (hn : n < 128 ^ k) (hc : c < 128) (hk : k < 9 ∨ (k = 9 ∧ c ≤ 1)) :
    IntKind.u64.wrap ((n : Int) + IntKind.u64.wrap ((p : Int) * ((c : Int) % 128))) = ((n + c * 128 ^ k : Nat) : Int) :=
  Num.mul_any hp hn (by omega) (by omega)
theorem Num.mul_on {p n k c : Nat} (hp : p = 128 ^ k) (hn : n < 128 ^ k) (hc : 128 ≤ c) (hb : c < 256) (hk : k < 9) :
    IntKind.u64.wrap ((n : Int) + IntKind.u64.wrap ((p : Int) * ((c : Int) % 128))) = ((n + (c - 128) * 128 ^ k : Nat) : Int) :=
  Num.mul_any hp hn (by omega) (by omega)

set_option maxHeartbeats 1000000 in
set_option maxRecDepth 20000 in
theorem refTakeUvar_any (l : List UInt8) (A : Option Addr) (c B : Nat) (w : World) (hr : RdB w B A l) (hl : l.length ≤ 4611686018427387904) :
    Calls Try.prog 12 #[.slice A l.length c] w fun e w' => e = .returned (.tuple #[.int .u64 ((Num.take l).1 : Int), .int .i64 ((Num.take l).2.1 : Int), .int .i64 (Num.take l).2.2]) ∧ w = w' := by
  go_enter Try.func12, Try.ntmps12
  go_wp2
  go_loop [5, 6, 7] (fun t y i => ∃ k n p : Nat, k ≤ l.length ∧ k ≤ 9 ∧ Num.take l = Num.tk k n (l.drop k) ∧ n < 128 ^ k ∧ p = 128 ^ k ∧ i = .int .i64 k ∧ t = .int .u64 (n : Int) ∧ y = .int .u64 (p : Int)) (fun _ _ i => l.length - (intOf i).toNat)
  case atStart => exact ⟨0, 0, 1, by omega, by omega, rfl, by omega, rfl, rfl, rfl, rfl⟩
  case round =>
    obtain ⟨k, n, p, hk, hk9, HT, hn, hp, rfl, rfl, rfl⟩ := hrel
    by_cases hlt : k < l.length
    · obtain ⟨ad, rfl, hc⟩ := hr.at_ hlt
      rw [Num.drop_cons l k hlt] at HT
      generalize l[k] = c at hc HT
      have hb : c.toNat < 256 := c.toNat_lt
      have HH := hide HT
      have HNN := hide hn
      have HP := hide hp
      clear HT hn hp
      rcases Nat.lt_or_ge k 9 with h9 | h9
      · rcases Nat.lt_or_ge 0 k with k0 | k0
        · rcases Nat.lt_or_ge 0 c.toNat with c0 | c0
          · rcases Nat.lt_or_ge c.toNat 128 with c8 | c8
            · have HF := hide ((unhide HH).trans (Num.tk_end (by omega) c8))
              have HN := hide (Num.mul_end (unhide HP) (unhide HNN) c8 (.inl h9))
              go_wp2
              go_ret3
              exact ⟨ret_eq (by rw [unhide HF]; exact Num.tup3 (unhide HN) rfl rfl), rfl⟩
            · have HF := hide ((unhide HH).trans (Num.tk_on (by omega) c8))
              have HN := hide (Num.mul_on (unhide HP) (unhide HNN) c8 hb h9)
              go_wp2
              go_round
              case rel => exact ⟨k + 1, _, 128 ^ (k + 1), by omega, by omega, unhide HF, Num.on_lt (unhide HNN) hb h9, rfl, by go_num, congrArg (Value.int .u64) (unhide HN), congrArg (Value.int .u64) (Num.by_step (unhide HP) h9)⟩
              case measure => simp [intOf]; omega
          · have HF := hide ((unhide HH).trans (Num.tk_bad (.inr ⟨k0, by omega⟩)))
            go_wp2
            go_ret3
            exact ⟨ret_eq (by rw [unhide HF]; rfl), rfl⟩
        · rcases Nat.lt_or_ge c.toNat 128 with c8 | c8
          · have HF := hide ((unhide HH).trans (Num.tk_end (by omega) c8))
            have HN := hide (Num.mul_end (unhide HP) (unhide HNN) c8 (.inl h9))
            rcases Nat.lt_or_ge 0 c.toNat with c0 | c0
            · have b2 : ((c.toNat : Int) == 0) = false := beq_eq_false_iff_ne.2 (by omega)
              go_wp2
              go_ret3
              exact ⟨ret_eq (by rw [unhide HF]; exact Num.tup3 (unhide HN) rfl rfl), rfl⟩
            · have b2 : ((c.toNat : Int) == 0) = true := beq_iff_eq.2 (by omega)
              go_wp2
              go_ret3
              exact ⟨ret_eq (by rw [unhide HF]; exact Num.tup3 (unhide HN) rfl rfl), rfl⟩
          · have HF := hide ((unhide HH).trans (Num.tk_on (by omega) c8))
            have HN := hide (Num.mul_on (unhide HP) (unhide HNN) c8 hb h9)
            go_wp2
            all_goals go_round
            case rel => exact ⟨k + 1, _, 128 ^ (k + 1), by omega, by omega, unhide HF, Num.on_lt (unhide HNN) hb h9, rfl, by go_num, congrArg (Value.int .u64) (unhide HN), congrArg (Value.int .u64) (Num.by_step (unhide HP) h9)⟩
            case measure => simp [intOf]; omega
      · have b9 : ((k : Int) == 9) = true := beq_iff_eq.2 (by omega)
        have b0 : decide (0 < (k : Int)) = true := decide_eq_true (by omega)
        rcases Nat.lt_or_ge 1 c.toNat with c1 | c1
        · have b1 : decide (1 < (c.toNat : Int)) = true := decide_eq_true (by omega)
          have b2 : ((c.toNat : Int) == 0) = false := beq_eq_false_iff_ne.2 (by omega)
          have HF := hide ((unhide HH).trans (Num.tk_bad (.inl ⟨by omega, c1⟩)))
          go_wp2
          all_goals go_ret3
          all_goals exact ⟨ret_eq (by rw [unhide HF]; rfl), rfl⟩
        · have b1 : decide (1 < (c.toNat : Int)) = false := decide_eq_false (by omega)
          rcases Nat.lt_or_ge 0 c.toNat with c0 | c0
          · have b2 : ((c.toNat : Int) == 0) = false := beq_eq_false_iff_ne.2 (by omega)
            have HF := hide ((unhide HH).trans (Num.tk_end (by omega) (by omega)))
            have HN := hide (Num.mul_end (unhide HP) (unhide HNN) (show c.toNat < 128 by omega) (.inr ⟨by omega, c1⟩))
            go_wp2
            go_ret3
            exact ⟨ret_eq (by rw [unhide HF]; exact Num.tup3 (unhide HN) rfl rfl), rfl⟩
          · have b2 : ((c.toNat : Int) == 0) = true := beq_iff_eq.2 (by omega)
            have HF := hide ((unhide HH).trans (Num.tk_bad (.inr ⟨by omega, by omega⟩)))
            go_wp2
            go_ret3
            exact ⟨ret_eq (by rw [unhide HF]; rfl), rfl⟩
    · have HF := hide HT
      have hd : l.drop k = [] := List.drop_of_length_le (by omega)
      rw [hd] at HF
      clear HT hd hn hp
      go_wp2
      go_ret3
      exact ⟨ret_eq (by rw [unhide HF]; rfl), rfl⟩
end Go.Proofs.Ytbiinlkdgankkaa
