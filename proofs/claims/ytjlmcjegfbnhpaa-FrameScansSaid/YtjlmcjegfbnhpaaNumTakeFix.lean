/- The walks of TakeFixed, num's and the document's. -/
import Derived.Test.YtjlmcjegfbnhpaaNumWrite
import Derived.Test.YtjlmcjegfbnhpaaNumFixMath
namespace Go.Proofs.Ytjlmcjegfbnhpaa
set_option linter.unusedVariables false
open Go.RowKit

/-- the answer of TakeFixed -/
def Num.takeFixed (l : List UInt8) (width : Int) : Nat × Int := if width < 1 ∨ 8 < width then (0, 1) else if l.length < width.toNat then (0, 2) else (Num.tf 0 (l.take width.toNat), 0)
theorem Num.takeFixed_arg {l : List UInt8} {width : Int} (h : width < 1 ∨ 8 < width) : Num.takeFixed l width = (0, 1) := by rw [Num.takeFixed, if_pos h]
theorem Num.takeFixed_short {l : List UInt8} {w : Nat} (h1 : 1 ≤ w) (h8 : w ≤ 8) (h : l.length < w) : Num.takeFixed l (w : Int) = (0, 2) := by
  rw [Num.takeFixed, if_neg (by omega), Int.toNat_natCast, if_pos h]
theorem Num.takeFixed_ok {l : List UInt8} {w : Nat} (h1 : 1 ≤ w) (h8 : w ≤ 8) (h : w ≤ l.length) : Num.takeFixed l (w : Int) = (Num.tf 0 (l.take w), 0) := by
  rw [Num.takeFixed, if_neg (by omega), Int.toNat_natCast, if_neg (by omega)]
theorem Num.tf_step {l : List UInt8} {k : Nat} (hk : k < l.length) (h7 : k < 8) : Num.tf 0 (l.take (k + 1)) = Num.tf 0 (l.take k) * 256 + (l[k]).toNat ∧ Num.tf 0 (l.take k) < 72057594037927936 := by
  rw [List.take_succ_eq_append_getElem hk, Num.tf_snoc]
  refine ⟨rfl, ?_⟩
  have h1 := Num.tf_lt0 (l.take k)
  have h2 : 256 ^ (l.take k).length ≤ 256 ^ 7 := Nat.pow_le_pow_right (by omega) (by simp; omega)
  have h3 : (256 : Nat) ^ 7 = 72057594037927936 := by decide
  omega
theorem Num.shl8 {m : Nat} {c : UInt8} (hm : m < 72057594037927936) : bits BinOp.or IntKind.u64 ((m : Int) * 256) (c.toNat : Int) = ((m * 256 + c.toNat : Nat) : Int) := by
  have hc := c.toNat_lt
  have e1 : ((m : Int) * 256) = ((m * 256 : Nat) : Int) := by rw [Int.natCast_mul]; rfl
  rw [e1, u64_or_nat _ _ (by omega) (by omega)]
  congr 1
  exact nat_join 8 (m * 256) c.toNat (Nat.mul_mod_left _ _) (by omega)

set_option maxHeartbeats 1000000 in
set_option maxRecDepth 20000 in
theorem takeFixed_any (l : List UInt8) (A : Option Addr) (c B : Nat) (width : Int) (w : World) (hr : RdB w B A l) (hc : l.length ≤ c) (hl : c ≤ 9223372036854775807) (lo : -9223372036854775808 ≤ width) (hi8 : width ≤ 9223372036854775807) :
    Calls Try.prog 28 #[.slice A l.length c, .int .i64 width] w fun e w' => e = .returned (.tuple #[.int .u64 ((Num.takeFixed l width).1 : Int), .int .i64 (Num.takeFixed l width).2]) ∧ w = w' := by
  by_cases hw : width < 1 ∨ 8 < width
  · have HF := hide (Num.takeFixed_arg (l := l) hw)
    rw [unhide HF]
    rcases hw with hw | hw
    · go_enter Try.func28, Try.ntmps28
      go_wp2
      go_ret2
      exact ⟨rfl, rfl⟩
    · have hw1 : 1 ≤ width := by omega
      go_enter Try.func28, Try.ntmps28
      go_wp2
      go_ret2
      exact ⟨rfl, rfl⟩
  · obtain ⟨v, rfl⟩ := Int.eq_ofNat_of_zero_le (show 0 ≤ width by omega)
    have h1 : 1 ≤ v := by omega
    have h8 : v ≤ 8 := by omega
    clear hw lo hi8
    rcases Nat.lt_or_ge l.length v with hs | hs
    · have HF := hide (Num.takeFixed_short h1 h8 hs)
      rw [unhide HF]
      go_enter Try.func28, Try.ntmps28
      go_wp2
      go_ret2
      exact ⟨rfl, rfl⟩
    · have HF := hide (Num.takeFixed_ok h1 h8 hs)
      rw [unhide HF]
      go_enter Try.func28, Try.ntmps28
      go_wp2
      go_loop [6, 23] (fun t i => ∃ k : Nat, k ≤ v ∧ i = .int .i64 k ∧ t = .int .u64 (Num.tf 0 (l.take k) : Int)) (fun _ i => v - (intOf i).toNat)
      case atStart => exact ⟨0, Nat.zero_le _, rfl, by rw [List.take_zero]; rfl⟩
      case round =>
        obtain ⟨k, hk, rfl, rfl⟩ := hrel
        by_cases hlt : k < v
        · obtain ⟨ad, rfl, hcell⟩ := hr.at_ (k := k) (by omega)
          have hst := Num.tf_step (l := l) (k := k) (by omega) (by omega)
          have HS := hide hst.1
          have hb := hst.2
          clear hst
          generalize l[k] = c at hcell HS
          have hcl : c.toNat < 256 := c.toNat_lt
          generalize Num.tf 0 (l.take k) = m at hb HS ⊢
          go_wp2
          go_round
          case rel => exact ⟨k + 1, by omega, by go_num, by rw [unhide HS]; exact congrArg (Value.int .u64) (Num.shl8 hb)⟩
          case measure => simp [intOf]; omega
        · obtain rfl : k = v := by omega
          go_wp2
          go_ret2
          exact ⟨rfl, rfl⟩
    
set_option maxHeartbeats 1000000 in
set_option maxRecDepth 20000 in
theorem refTakeFixed_any (l : List UInt8) (A : Option Addr) (c B : Nat) (width : Int) (w : World) (hr : RdB w B A l) (hc : l.length ≤ c) (hl : c ≤ 9223372036854775807) (lo : -9223372036854775808 ≤ width) (hi8 : width ≤ 9223372036854775807) :
    Calls Try.prog 29 #[.slice A l.length c, .int .i64 width] w fun e w' => e = .returned (.tuple #[.int .u64 ((Num.takeFixed l width).1 : Int), .int .i64 (Num.takeFixed l width).2]) ∧ w = w' := by
  by_cases hw : width < 1 ∨ 8 < width
  · have HF := hide (Num.takeFixed_arg (l := l) hw)
    rw [unhide HF]
    rcases hw with hw | hw
    · go_enter Try.func29, Try.ntmps29
      go_wp2
      go_ret2
      exact ⟨rfl, rfl⟩
    · have hw1 : 1 ≤ width := by omega
      go_enter Try.func29, Try.ntmps29
      go_wp2
      go_ret2
      exact ⟨rfl, rfl⟩
  · obtain ⟨v, rfl⟩ := Int.eq_ofNat_of_zero_le (show 0 ≤ width by omega)
    have h1 : 1 ≤ v := by omega
    have h8 : v ≤ 8 := by omega
    clear hw lo hi8
    rcases Nat.lt_or_ge l.length v with hs | hs
    · have HF := hide (Num.takeFixed_short h1 h8 hs)
      rw [unhide HF]
      go_enter Try.func29, Try.ntmps29
      go_wp2
      go_ret2
      exact ⟨rfl, rfl⟩
    · have HF := hide (Num.takeFixed_ok h1 h8 hs)
      rw [unhide HF]
      go_enter Try.func29, Try.ntmps29
      go_wp2
      go_loop [6, 7] (fun t i => ∃ k : Nat, k ≤ v ∧ i = .int .i64 k ∧ t = .int .u64 (Num.tf 0 (l.take k) : Int)) (fun _ i => v - (intOf i).toNat)
      case atStart => exact ⟨0, Nat.zero_le _, rfl, by rw [List.take_zero]; rfl⟩
      case round =>
        obtain ⟨k, hk, rfl, rfl⟩ := hrel
        by_cases hlt : k < v
        · obtain ⟨ad, rfl, hcell⟩ := hr.at_ (k := k) (by omega)
          have hst := Num.tf_step (l := l) (k := k) (by omega) (by omega)
          have HS := hide hst.1
          have hb := hst.2
          clear hst
          generalize l[k] = c at hcell HS
          have hcl : c.toNat < 256 := c.toNat_lt
          generalize Num.tf 0 (l.take k) = m at hb HS ⊢
          go_wp2
          go_round
          case rel => exact ⟨k + 1, by omega, by go_num, by rw [unhide HS]; go_num⟩
          case measure => simp [intOf]; omega
        · obtain rfl : k = v := by omega
          go_wp2
          go_ret2
          exact ⟨rfl, rfl⟩
end Go.Proofs.Ytjlmcjegfbnhpaa
