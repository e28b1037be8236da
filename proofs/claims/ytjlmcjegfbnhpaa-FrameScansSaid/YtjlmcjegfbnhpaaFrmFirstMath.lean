/- What stands at the front of bytes, in plain words. No program in sight. -/
import Derived.Test.YtjlmcjegfbnhpaaFrmMath
namespace Go.Proofs.Ytjlmcjegfbnhpaa.Frm
set_option linter.unusedVariables false
def word (b : List UInt8) (at' : Nat) : Nat := Num.tf 0 ((b.drop at').take 4)
theorem word_lt (b : List UInt8) (at' : Nat) : word b at' < 4294967296 := by
  have h := Num.tf_lt0 ((b.drop at').take 4)
  have h2 : ((b.drop at').take 4).length ≤ 4 := by simp; omega
  exact Nat.lt_of_lt_of_le h (Nat.pow_le_pow_right (by omega) h2)
def got (b : List UInt8) (v : UInt8) : F := ⟨v.toNat, word b 1, word b 5, word b 9, (b.drop 17).take (word b 13)⟩
def crc (b : List UInt8) : Nat := (Crc.more 0#32 (b.take (17 + word b 13))).toNat
def firstAt (b : List UInt8) (v : UInt8) : F × Nat × Int :=
  if v.toNat = 0 then (F.zero, 0, 3)
  else if b.length < 17 then (F.zero, 0, 2)
  else if 1048576 < word b 13 then (F.zero, 0, 6)
  else if b.length < word b 13 + 21 then (F.zero, 0, 2)
  else if (b.drop (17 + word b 13)).take 4 ≠ le4 (crc b) then (F.zero, 0, 4)
  else (got b v, word b 13 + 21, 0)
def first : List UInt8 → F × Nat × Int
  | [] => (F.zero, 0, 2)
  | v :: r => firstAt (v :: r) v
/-- what first says, case by case -/
inductive Kind (b : List UInt8) : F × Nat × Int → Prop where
  | nil : b = [] → Kind b (F.zero, 0, 2)
  | form (v : UInt8) (r : List UInt8) : b = v :: r → v.toNat = 0 → Kind b (F.zero, 0, 3)
  | short (v : UInt8) (r : List UInt8) : b = v :: r → v.toNat ≠ 0 → b.length < 17 → Kind b (F.zero, 0, 2)
  | long (v : UInt8) (r : List UInt8) : b = v :: r → v.toNat ≠ 0 → 17 ≤ b.length → 1048576 < word b 13 → Kind b (F.zero, 0, 6)
  | cut (v : UInt8) (r : List UInt8) : b = v :: r → v.toNat ≠ 0 → 17 ≤ b.length → word b 13 ≤ 1048576 → b.length < word b 13 + 21 → Kind b (F.zero, 0, 2)
  | sum (v : UInt8) (r : List UInt8) : b = v :: r → v.toNat ≠ 0 → word b 13 ≤ 1048576 → word b 13 + 21 ≤ b.length → (b.drop (17 + word b 13)).take 4 ≠ le4 (crc b) → Kind b (F.zero, 0, 4)
  | ok (v : UInt8) (r : List UInt8) : b = v :: r → v.toNat ≠ 0 → word b 13 ≤ 1048576 → word b 13 + 21 ≤ b.length → (b.drop (17 + word b 13)).take 4 = le4 (crc b) → Kind b (got b v, word b 13 + 21, 0)
theorem kind (b : List UInt8) : Kind b (first b) := by
  cases b with
  | nil => exact .nil rfl
  | cons v r =>
    show Kind (v :: r) (firstAt (v :: r) v)
    unfold firstAt
    by_cases h1 : v.toNat = 0
    · rw [if_pos h1]; exact .form v r rfl h1
    rw [if_neg h1]
    by_cases h2 : (v :: r).length < 17
    · rw [if_pos h2]; exact .short v r rfl h1 h2
    rw [if_neg h2]
    by_cases h3 : 1048576 < word (v :: r) 13
    · rw [if_pos h3]; exact .long v r rfl h1 (by omega) h3
    rw [if_neg h3]
    by_cases h4 : (v :: r).length < word (v :: r) 13 + 21
    · rw [if_pos h4]; exact .cut v r rfl h1 (by omega) (by omega) h4
    rw [if_neg h4]
    by_cases h5 : ((v :: r).drop (17 + word (v :: r) 13)).take 4 ≠ le4 (crc (v :: r))
    · rw [if_pos h5]; exact .sum v r rfl h1 (by omega) (by omega) h5
    rw [if_neg h5]
    exact .ok v r rfl h1 (by omega) (by omega) (Classical.not_not.1 h5)
def unpack (b : List UInt8) : F × Int :=
  if (first b).2.2 ≠ 0 then (F.zero, (first b).2.2) else if (first b).2.1 ≠ b.length then (F.zero, 3) else ((first b).1, 0)
/-- the numbers that stand behind the first byte, as far as they are read -/
def heads (b : List UInt8) (k : Nat) : List Nat := (List.range 4).map fun j => if j < k then word b (1 + 4 * j) else 0
theorem heads_len (b : List UInt8) (k : Nat) : (heads b k).length = 4 := by simp [heads]
theorem heads_set (b : List UInt8) (k : Nat) (hk : k < 4) : (heads b k).set k (word b (1 + 4 * k)) = heads b (k + 1) := by
  apply List.ext_getElem
  · simp [heads]
  · intro i h1 h2
    rw [List.getElem_set]
    simp only [heads, List.getElem_map, List.getElem_range]
    split
    · next h => subst h; rw [if_pos (Nat.lt_succ_self _)]
    · next h =>
      by_cases hi : i < k
      · rw [if_pos hi, if_pos (by omega)]
      · rw [if_neg hi, if_neg (by omega)]
theorem heads_four (b : List UInt8) : heads b 4 = [word b 1, word b 5, word b 9, word b 13] := rfl
theorem heads_zero (b : List UInt8) : heads b 0 = [0, 0, 0, 0] := rfl
theorem low_get (q k j : Nat) (h : j < k) : (low q k)[j]? = some (UInt8.ofNat (q / 256 ^ j)) := by
  simp [low, h]
theorem take4_eq (b : List UInt8) (m q : Nat) (h : ∀ j, j < 4 → b[m + j]? = some (UInt8.ofNat (q / 256 ^ j))) : (b.drop m).take 4 = le4 q := by
  rw [← low_four]
  apply List.ext_getElem?
  intro j
  by_cases hj : j < 4
  · rw [List.getElem?_take_of_lt hj, List.getElem?_drop, h j hj, low_get q 4 j hj]
  · rw [List.getElem?_eq_none (by simp; omega), List.getElem?_eq_none (by rw [low_len]; omega)]
theorem take4_get (b : List UInt8) (m q : Nat) (h : (b.drop m).take 4 = le4 q) (j : Nat) (hj : j < 4) : b[m + j]? = some (UInt8.ofNat (q / 256 ^ j)) := by
  have h2 := low_get q 4 j hj
  rw [low_four, ← h, List.getElem?_take_of_lt hj, List.getElem?_drop] at h2
  exact h2
end Go.Proofs.Ytjlmcjegfbnhpaa.Frm
