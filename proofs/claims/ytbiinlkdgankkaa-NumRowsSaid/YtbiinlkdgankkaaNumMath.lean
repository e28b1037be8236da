/- Numbers as bytes, in plain words: the short number, the number of so many bytes, the text behind its count. No program in sight. -/
namespace Go.Proofs.Ytbiinlkdgankkaa.Num
set_option linter.unusedVariables false

/-- reading a short number: i bytes are read, they are worth n. (number, bytes, error) -/
def tk (i n : Nat) : List UInt8 → Nat × Nat × Int
  | [] => (0, 0, 2)
  | c :: l => if (i = 9 ∧ 1 < c.toNat) ∨ (0 < i ∧ c.toNat = 0) then (0, 0, 3) else if c.toNat < 128 then (n + c.toNat % 128 * 128 ^ i, i + 1, 0) else tk (i + 1) (n + c.toNat % 128 * 128 ^ i) l
def take (l : List UInt8) : Nat × Nat × Int := tk 0 0 l

theorem tk_bad {i n : Nat} {c : UInt8} {l : List UInt8} (h : (i = 9 ∧ 1 < c.toNat) ∨ (0 < i ∧ c.toNat = 0)) : tk i n (c :: l) = (0, 0, 3) := by rw [tk, if_pos h]
theorem tk_end {i n : Nat} {c : UInt8} {l : List UInt8} (h : ¬ ((i = 9 ∧ 1 < c.toNat) ∨ (0 < i ∧ c.toNat = 0))) (hc : c.toNat < 128) : tk i n (c :: l) = (n + c.toNat * 128 ^ i, i + 1, 0) := by
  rw [tk, if_neg h, if_pos hc, Nat.mod_eq_of_lt hc]
theorem tk_on {i n : Nat} {c : UInt8} {l : List UInt8} (h : ¬ ((i = 9 ∧ 1 < c.toNat) ∨ (0 < i ∧ c.toNat = 0))) (hc : 128 ≤ c.toNat) : tk i n (c :: l) = tk (i + 1) (n + (c.toNat - 128) * 128 ^ i) l := by
  have hb := c.toNat_lt
  have e : c.toNat % 128 = c.toNat - 128 := by omega
  rw [tk, if_neg h, if_neg (by omega), e]
theorem drop_cons {α : Type} (l : List α) (k : Nat) (h : k < l.length) : l.drop k = l[k] :: l.drop (k + 1) := List.drop_eq_getElem_cons h

/-- writing a short number -/
def uvF : Nat → Nat → List UInt8
  | 0, n => [UInt8.ofNat n]
  | f + 1, n => if n < 128 then [UInt8.ofNat n] else UInt8.ofNat (n % 128 + 128) :: uvF f (n / 128)
def uv (n : Nat) : List UInt8 := uvF n n
theorem uvF_any : ∀ (f g n : Nat), n ≤ f → n ≤ g → uvF f n = uvF g n := by
  intro f
  induction f with
  | zero =>
    intro g n h1 h2
    obtain rfl : n = 0 := by omega
    cases g with
    | zero => rfl
    | succ g => rw [uvF, uvF, if_pos (by omega)]
  | succ f ih =>
    intro g n h1 h2
    cases g with
    | zero =>
      obtain rfl : n = 0 := by omega
      rw [uvF, uvF, if_pos (by omega)]
    | succ g =>
      rw [uvF, uvF]
      by_cases h : n < 128
      · rw [if_pos h, if_pos h]
      · rw [if_neg h, if_neg h, ih g (n / 128) (by omega) (by omega)]
theorem uv_small {n : Nat} (h : n < 128) : uv n = [UInt8.ofNat n] := by
  unfold uv
  cases n with
  | zero => rfl
  | succ n => rw [uvF, if_pos h]
theorem uv_big {n : Nat} (h : 128 ≤ n) : uv n = UInt8.ofNat (n % 128 + 128) :: uv (n / 128) := by
  unfold uv
  obtain ⟨m, rfl⟩ : ∃ m, n = m + 1 := ⟨n - 1, by omega⟩
  rw [uvF, if_neg (by omega), uvF_any m ((m + 1) / 128) _ (by omega) (Nat.le_refl _)]
theorem uv_ne (n : Nat) : 0 < (uv n).length := by
  rcases Nat.lt_or_ge n 128 with h | h
  · rw [uv_small h]; simp
  · rw [uv_big h]; simp
theorem uv_len : ∀ (k n : Nat), n < 128 ^ (k + 1) → (uv n).length ≤ k + 1 := by
  intro k
  induction k with
  | zero => intro n h; rw [uv_small (by simpa using h)]; simp
  | succ k ih =>
    intro n h
    rcases Nat.lt_or_ge n 128 with h1 | h1
    · rw [uv_small h1]; simp
    · rw [uv_big h1, List.length_cons]
      have := ih (n / 128) (by rw [Nat.div_lt_iff_lt_mul (by omega), ← Nat.pow_succ]; exact h)
      omega
theorem pow10 : (18446744073709551616 : Nat) ≤ 128 ^ 10 := by decide
theorem pow9 : (128 : Nat) ^ 9 = 9223372036854775808 := by decide
theorem uv_len64 {n : Nat} (h : n < 18446744073709551616) : (uv n).length ≤ 10 := uv_len 9 n (Nat.lt_of_lt_of_le h pow10)

theorem toNat_ofNat_small {n : Nat} (h : n < 256) : (UInt8.ofNat n).toNat = n := by rw [UInt8.toNat_ofNat']; exact Nat.mod_eq_of_lt h

/-- WHAT IS WRITTEN IS READ BACK, whatever is behind it. -/
theorem tk_uv : ∀ (f n : Nat), n ≤ f → ∀ (i m : Nat) (more : List UInt8), i ≤ 9 → n * 128 ^ i < 18446744073709551616 → (0 < i → 0 < n) → tk i m (uv n ++ more) = (m + n * 128 ^ i, i + (uv n).length, 0) := by
  intro f
  induction f with
  | zero =>
    intro n hn i m more hi hb h0
    obtain rfl : n = 0 := by omega
    obtain rfl : i = 0 := by omega
    rw [uv_small (by omega)]
    rfl
  | succ f ih =>
    intro n hn i m more hi hb h0
    have h9 : i = 9 → n ≤ 1 := by
      rintro rfl
      rw [pow9] at hb
      omega
    rcases Nat.lt_or_ge n 128 with h | h
    · rw [uv_small h, List.singleton_append, tk_end]
      · rw [toNat_ofNat_small (by omega)]; rfl
      · rw [toNat_ofNat_small (by omega)]; omega
      · rw [toNat_ofNat_small (by omega)]; exact h
    · have hi9 : i < 9 := by omega
      rw [uv_big h, List.cons_append, tk_on]
      · rw [toNat_ofNat_small (by omega), Nat.add_sub_cancel]
        have e : (n / 128) * 128 ^ (i + 1) + n % 128 * 128 ^ i = n * 128 ^ i := by
          rw [Nat.pow_succ, Nat.mul_comm (128 ^ i) 128, ← Nat.mul_assoc, ← Nat.add_mul]
          congr 1
          omega
        rw [ih (n / 128) (by omega) (i + 1) _ more (by omega) (by omega) (by omega)]
        rw [List.length_cons]
        simp only [Prod.mk.injEq, and_true]
        omega
      · rw [toNat_ofNat_small (by omega)]; omega
      · rw [toNat_ofNat_small (by omega)]; omega
theorem take_uv {n : Nat} (h : n < 18446744073709551616) (more : List UInt8) : take (uv n ++ more) = (n, (uv n).length, 0) := by
  unfold take
  rw [tk_uv n n (Nat.le_refl _) 0 0 more (by omega) (by simpa using h) (by omega)]
  simp
theorem fin9 (n X P : Nat) (hP : P = 9223372036854775808) (e5 : n * P < 18446744073709551616) (b1 : X < P) : n * P + X < 18446744073709551616 := by
  have h1 : n ≤ 1 := by
    apply Classical.byContradiction
    intro hn
    have := Nat.mul_le_mul_right P (show 2 ≤ n by omega)
    omega
  have h2 := Nat.mul_le_mul_right P h1
  omega
/-- NO OTHER BYTES are read as a number than those that are written of it. -/
theorem tk_only : ∀ (l : List UInt8) (i m N k : Nat), i ≤ 9 → tk i m l = (N, k, 0) → ∃ n, N = m + n * 128 ^ i ∧ l.take (k - i) = uv n ∧ k = i + (uv n).length ∧ k ≤ i + l.length ∧ n * 128 ^ i < 18446744073709551616 ∧ (0 < i → 0 < n)
  | [], i, m, N, k, _, h => by simp [tk] at h
  | c :: l, i, m, N, k, hi, h => by
    have hb := c.toNat_lt
    by_cases hbad : (i = 9 ∧ 1 < c.toNat) ∨ (0 < i ∧ c.toNat = 0)
    · rw [tk_bad hbad] at h; simp at h
    · by_cases hc : c.toNat < 128
      · rw [tk_end hbad hc] at h
        simp only [Prod.mk.injEq, and_true] at h
        obtain ⟨rfl, rfl⟩ := h
        refine ⟨c.toNat, rfl, ?_, ?_, by simp, ?_, by omega⟩
        · rw [uv_small hc, Nat.add_sub_cancel_left]; simp
        · rw [uv_small hc]; rfl
        · rcases Nat.lt_or_ge i 9 with h9 | h9
          · have e1 : 128 ^ i ≤ 128 ^ 8 := Nat.pow_le_pow_right (by omega) (by omega)
            have e2 : (128 : Nat) ^ 8 = 72057594037927936 := by decide
            have e3 : c.toNat * 128 ^ i ≤ 127 * 128 ^ 8 := Nat.mul_le_mul (by omega) e1
            omega
          · obtain rfl : i = 9 := by omega
            rw [pow9]; omega
      · have hi9 : i < 9 := by omega
        rw [tk_on hbad (by omega)] at h
        obtain ⟨n, e1, e2, e3, e4, e5, e6⟩ := tk_only l (i + 1) _ N k (by omega) h
        have hn := e6 (by omega)
        have hN : n * 128 * 128 ^ i = n * 128 ^ (i + 1) := by rw [Nat.pow_succ, Nat.mul_comm (128 ^ i) 128, Nat.mul_assoc]
        have hu : uv (n * 128 + (c.toNat - 128)) = c :: uv n := by
          rw [uv_big (by omega)]
          have a1 : (n * 128 + (c.toNat - 128)) % 128 + 128 = c.toNat := by omega
          have a2 : (n * 128 + (c.toNat - 128)) / 128 = n := by omega
          rw [a1, a2]
          simp
        refine ⟨n * 128 + (c.toNat - 128), ?_, ?_, ?_, ?_, ?_, by omega⟩
        · rw [e1, Nat.add_mul, hN]; omega
        · rw [hu, ← e2]
          have hk : k - i = (k - (i + 1)) + 1 := by have := uv_ne n; omega
          rw [hk, List.take_succ_cons]
        · rw [hu, List.length_cons]; omega
        · rw [List.length_cons]; omega
        · rw [Nat.add_mul, hN]
          have b1 : (c.toNat - 128) * 128 ^ i < 128 * 128 ^ i := Nat.mul_lt_mul_of_pos_right (by omega) (Nat.pow_pos (by omega))
          have b2 : 128 * 128 ^ i = 128 ^ (i + 1) := by rw [Nat.pow_succ, Nat.mul_comm]
          rcases Nat.lt_or_ge (i + 1) 9 with h8 | h8
          · -- n below 2^64 / 128^(i+1): a whole multiple
            have hpow : ∃ q, 18446744073709551616 = q * 128 ^ (i + 1) := by
              have : i = 0 ∨ i = 1 ∨ i = 2 ∨ i = 3 ∨ i = 4 ∨ i = 5 ∨ i = 6 ∨ i = 7 := by omega
              rcases this with rfl | rfl | rfl | rfl | rfl | rfl | rfl | rfl
              · exact ⟨144115188075855872, by decide⟩
              · exact ⟨1125899906842624, by decide⟩
              · exact ⟨8796093022208, by decide⟩
              · exact ⟨68719476736, by decide⟩
              · exact ⟨536870912, by decide⟩
              · exact ⟨4194304, by decide⟩
              · exact ⟨32768, by decide⟩
              · exact ⟨256, by decide⟩
            obtain ⟨q, hq⟩ := hpow
            have hlt : n < q := by
              rw [hq] at e5
              exact Nat.lt_of_mul_lt_mul_right e5
            have := Nat.mul_le_mul_right (128 ^ (i + 1)) (show n + 1 ≤ q from hlt)
            rw [Nat.add_mul, ← hq] at this
            omega
          · obtain rfl : i = 8 := by omega
            exact fin9 n _ _ pow9 e5 (Nat.lt_of_lt_of_eq b1 b2)
theorem take_only {l : List UInt8} {n k : Nat} (h : take l = (n, k, 0)) : l.take k = uv n ∧ k = (uv n).length ∧ k ≤ l.length ∧ n < 18446744073709551616 := by
  obtain ⟨n', e1, e2, e3, e4, e5, _⟩ := tk_only l 0 0 n k (by omega) h
  simp only [Nat.pow_zero, Nat.mul_one, Nat.zero_add] at e1 e5 e3 e4
  subst e1
  exact ⟨by simpa using e2, e3, e4, e5⟩
/-- what reading answers: a number, or one of two errors with noughts -/
theorem tk_cases : ∀ (l : List UInt8) (i m : Nat), (∃ n k, tk i m l = (n, k, 0)) ∨ tk i m l = (0, 0, 3) ∨ tk i m l = (0, 0, 2)
  | [], i, m => .inr (.inr rfl)
  | c :: l, i, m => by
    by_cases hbad : (i = 9 ∧ 1 < c.toNat) ∨ (0 < i ∧ c.toNat = 0)
    · exact .inr (.inl (tk_bad hbad))
    · by_cases hc : c.toNat < 128
      · exact .inl ⟨_, _, tk_end hbad hc⟩
      · rw [tk_on hbad (by omega)]; exact tk_cases l _ _
/-- CUT OFF ANYWHERE, it is short. -/
theorem tk_cut : ∀ (f n : Nat), n ≤ f → ∀ (i m j : Nat), i ≤ 9 → n * 128 ^ i < 18446744073709551616 → (0 < i → 0 < n) → j < (uv n).length → tk i m ((uv n).take j) = (0, 0, 2) := by
  intro f
  induction f with
  | zero =>
    intro n hn i m j hi hb h0 hj
    obtain rfl : n = 0 := by omega
    rw [uv_small (by omega)] at hj ⊢
    obtain rfl : j = 0 := by simpa using hj
    rfl
  | succ f ih =>
    intro n hn i m j hi hb h0 hj
    cases j with
    | zero => rfl
    | succ j =>
      have h9 : i = 9 → n ≤ 1 := by
        rintro rfl
        rw [pow9] at hb
        omega
      rcases Nat.lt_or_ge n 128 with h | h
      · rw [uv_small h] at hj; simp at hj
      · rw [uv_big h] at hj ⊢
        rw [List.take_succ_cons, tk_on]
        · have e : (n / 128) * 128 ^ (i + 1) + n % 128 * 128 ^ i = n * 128 ^ i := by
            rw [Nat.pow_succ, Nat.mul_comm (128 ^ i) 128, ← Nat.mul_assoc, ← Nat.add_mul]
            congr 1
            omega
          exact ih (n / 128) (by omega) (i + 1) _ j (by omega) (by omega) (by omega) (by simpa using hj)
        · rw [toNat_ofNat_small (by omega)]; omega
        · rw [toNat_ofNat_small (by omega)]; omega
theorem take_cut {n j : Nat} (h : n < 18446744073709551616) (hj : j < (uv n).length) : take ((uv n).take j) = (0, 0, 2) :=
  tk_cut n n (Nat.le_refl _) 0 0 j (by omega) (by simpa using h) (by omega) hj
end Go.Proofs.Ytbiinlkdgankkaa.Num
