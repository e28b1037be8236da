/- Numbers of so many bytes, in plain words. No program in sight. -/
import Derived.Test.YtjlmcjegfbnhpaaNumMath
namespace Go.Proofs.Ytjlmcjegfbnhpaa.Num
set_option linter.unusedVariables false

/-- n in w bytes, the highest first -/
def fx : Nat → Nat → List UInt8
  | 0, _ => []
  | w + 1, n => UInt8.ofNat (n / 256 ^ w) :: fx w n
theorem fx_length (w n : Nat) : (fx w n).length = w := by
  induction w with
  | zero => rfl
  | succ w ih => rw [fx, List.length_cons, ih]
theorem fx_get : ∀ (w n i : Nat) (h : i < w), (fx w n)[i]'(by rw [fx_length]; exact h) = UInt8.ofNat (n / 256 ^ (w - 1 - i))
  | 0, n, i, h => by omega
  | w + 1, n, 0, h => by simp [fx]
  | w + 1, n, i + 1, h => by
    simp only [fx, List.getElem_cons_succ]
    rw [fx_get w n i (by omega)]
    congr 3
    omega
/-- the answer of Fixed: bytes and an error -/
def fixed (n : Nat) (width : Int) : List UInt8 × Int := if width < 1 ∨ 8 < width then ([], 1) else if n / 256 ^ width.toNat ≠ 0 then ([], 6) else (fx width.toNat n, 0)
theorem fixed_arg {n : Nat} {width : Int} (h : width < 1 ∨ 8 < width) : fixed n width = ([], 1) := by rw [fixed, if_pos h]
theorem fixed_long {n w : Nat} (h1 : 1 ≤ w) (h8 : w ≤ 8) (h : n / 256 ^ w ≠ 0) : fixed n (w : Int) = ([], 6) := by
  rw [fixed, if_neg (by omega), Int.toNat_natCast, if_pos h]
theorem fixed_ok {n w : Nat} (h1 : 1 ≤ w) (h8 : w ≤ 8) (h : n / 256 ^ w = 0) : fixed n (w : Int) = (fx w n, 0) := by
  rw [fixed, if_neg (by omega), Int.toNat_natCast, if_neg (by simp [h])]

/-- the number at the front -/
def tf (n : Nat) (l : List UInt8) : Nat := l.foldl (fun m c => m * 256 + c.toNat) n
theorem tf_snoc (n : Nat) (l : List UInt8) (c : UInt8) : tf n (l ++ [c]) = tf n l * 256 + c.toNat := by unfold tf; rw [List.foldl_append]; rfl
theorem tf_lt : ∀ (l : List UInt8) (n k : Nat), n < 256 ^ k → tf n l < 256 ^ (k + l.length)
  | [], n, k, h => h
  | c :: l, n, k, h => by
    have hc := c.toNat_lt
    have h1 : n * 256 + c.toNat < 256 ^ (k + 1) := by
      rw [Nat.pow_succ]
      omega
    have := tf_lt l (n * 256 + c.toNat) (k + 1) h1
    rw [List.length_cons, show k + (l.length + 1) = k + 1 + l.length by omega]
    exact this
theorem tf_lt0 (l : List UInt8) : tf 0 l < 256 ^ l.length := by
  have := tf_lt l 0 0 (by simp)
  simpa using this
theorem tf_fx : ∀ (w n m : Nat), tf m (fx w n) = m * 256 ^ w + n % 256 ^ w
  | 0, n, m => by simp [tf, fx, Nat.mod_one]
  | w + 1, n, m => by
    have h : tf m (fx (w + 1) n) = tf (m * 256 + (UInt8.ofNat (n / 256 ^ w)).toNat) (fx w n) := rfl
    have e0 : (UInt8.ofNat (n / 256 ^ w)).toNat = n / 256 ^ w % 256 := by rw [UInt8.toNat_ofNat']
    have e3 : (256 : Nat) ^ (w + 1) = 256 ^ w * 256 := Nat.pow_succ _ _
    have e4 : n % (256 ^ w * 256) = n % 256 ^ w + 256 ^ w * (n / 256 ^ w % 256) := Nat.mod_mul
    have e1 : m * 256 * 256 ^ w = m * (256 ^ w * 256) := by rw [Nat.mul_comm (256 ^ w) 256, Nat.mul_assoc]
    have e2 : n / 256 ^ w % 256 * 256 ^ w = 256 ^ w * (n / 256 ^ w % 256) := Nat.mul_comm _ _
    rw [h, tf_fx w n, e0, Nat.add_mul, e3, e4, e1, e2]
    omega
end Go.Proofs.Ytjlmcjegfbnhpaa.Num
