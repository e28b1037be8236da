/- A packed frame of which some bits within 32 in a row are turned is none, in plain words. No program in sight. -/
import Derived.Test.YtjlmcjegfbnhpaaFrmBackMath
namespace Go.Proofs.Ytjlmcjegfbnhpaa
set_option linter.unusedVariables false
namespace Crc
theorem val_raw : ∀ (ds : List UInt8), ds.length ≤ 4 → raw (val ds) ds = 0#32
  | [], _ => rfl
  | d :: ds, hl => by
    simp only [List.length_cons] at hl
    have h2 : Lo (32 - 8) (val ds) := fun i hi => val_lo ds (by omega) i (by omega)
    rw [raw_cons]
    have e : byteIn (val (d :: ds)) d = val ds := by
      rw [byteIn, val, BitVec.xor_comm _ (val ds <<< 8), BitVec.xor_assoc, BitVec.xor_self, BitVec.xor_zero]
      exact stepN_low 8 (by omega) h2
    rw [e]
    exact val_raw ds (by omega)
theorem low_cons (n k : Nat) : Frm.low n (k + 1) = UInt8.ofNat n :: Frm.low (n / 256) k := by
  rw [Frm.low, List.range_succ_eq_map, List.map_cons, List.map_map, Nat.pow_zero, Nat.div_one]
  congr 1
  rw [Frm.low]
  apply List.map_congr_left
  intro i _
  simp only [Function.comp]
  rw [Nat.div_div_eq_div_mul, Nat.pow_succ, Nat.mul_comm]
theorem val_low : ∀ (k n i : Nat), i < 32 → (val (Frm.low n k)).getLsbD i = (decide (i < 8 * k) && n.testBit i)
  | 0, n, i, _ => by simp [Frm.low, val]
  | k + 1, n, i, hi => by
    rw [low_cons, val, BitVec.getLsbD_xor, BitVec.getLsbD_setWidth, BitVec.getLsbD_shiftLeft]
    have hd : (UInt8.ofNat n).toBitVec.getLsbD i = (decide (i < 8) && n.testBit i) := by
      show (BitVec.ofNat 8 n).getLsbD i = _
      rw [BitVec.getLsbD_ofNat]
    rw [hd]
    by_cases h8 : i < 8
    · have h1 : decide (i < 8 * (k + 1)) = true := by simp; omega
      simp [h8, h1, hi]
    · have ih := val_low k (n / 256) (i - 8) (by omega)
      rw [ih]
      have e : (n / 256).testBit (i - 8) = n.testBit i := by
        have : (n / 2 ^ 8).testBit (i - 8) = n.testBit (i - 8 + 8) := Nat.testBit_div_two_pow n (i - 8)
        rw [show (256 : Nat) = 2 ^ 8 from rfl, this]
        congr 1
        omega
      rw [e]
      have h1 : decide (i - 8 < 8 * k) = decide (i < 8 * (k + 1)) := by
        apply decide_eq_decide.2
        omega
      simp [h8, h1, hi]
theorem val_le4 (q : W32) : val (Frm.le4 q.toNat) = q := by
  apply BitVec.eq_of_getLsbD_eq
  intro i hi
  rw [← Frm.low_four, val_low 4 q.toNat i hi]
  have h1 : decide (i < 8 * 4) = true := by simp; omega
  rw [h1, Bool.true_and]
  rfl
/-- the sum of bytes and their sum behind them is always the same -/
theorem residue (p : List UInt8) : more 0#32 (Frm.whole p) = ~~~ raw (BitVec.allOnes 32) [0, 0, 0, 0] := by
  have hv := val_le4 (more 0#32 p)
  have hl : (Frm.le4 (more 0#32 p).toNat).length = 4 := rfl
  have h0 := val_raw (Frm.le4 (more 0#32 p).toNat) (by rw [hl]; omega)
  rw [hv] at h0
  have hx : xor2 (Frm.le4 (more 0#32 p).toNat) [0, 0, 0, 0] = Frm.le4 (more 0#32 p).toNat := by simp [xor2, Frm.le4]
  have hr := raw_xor2 (Frm.le4 (more 0#32 p).toNat) [0, 0, 0, 0] (more 0#32 p) (BitVec.allOnes 32) hl
  rw [h0, BitVec.zero_xor, hx] at hr
  have hm : more 0#32 (Frm.whole p) = ~~~ raw (raw (~~~ (0#32 : W32)) p) (Frm.le4 (more 0#32 p).toNat) := by rw [more, Frm.whole, raw_append]
  rw [hm]
  have e : raw (~~~ (0#32 : W32)) p = more 0#32 p ^^^ BitVec.allOnes 32 := by rw [more, not_eq (raw _ _), BitVec.xor_assoc, BitVec.xor_self, BitVec.xor_zero]
  rw [e, hr]
end Crc
namespace Frm
theorem ok_shape {c : List UInt8} (h : (unpack c).2 = 0) : ∃ p, c = whole p := by
  rw [unpack] at h
  have hk := kind c
  generalize first c = res at hk h
  by_cases h1 : res.2.2 ≠ 0
  · rw [if_pos h1] at h; exact absurd h h1
  rw [if_neg h1] at h
  by_cases h2 : res.2.1 ≠ c.length
  · rw [if_pos h2] at h; cases h
  cases hk with
  | nil _ => exact absurd (by decide) h1
  | form _ _ _ _ => exact absurd (by decide) h1
  | short _ _ _ _ _ => exact absurd (by decide) h1
  | long _ _ _ _ _ _ => exact absurd (by decide) h1
  | cut _ _ _ _ _ _ _ => exact absurd (by decide) h1
  | sum _ _ _ _ _ _ _ => exact absurd (by decide) h1
  | ok v r hb h0 hw hlen hs =>
    have hn : word c 13 + 21 = c.length := Classical.not_not.1 h2
    refine ⟨c.take (17 + word c 13), ?_⟩
    have hd : (c.drop (17 + word c 13)).take 4 = c.drop (17 + word c 13) := List.take_of_length_le (by rw [List.length_drop]; omega)
    rw [hd, crc] at hs
    rw [whole, ← hs, List.take_append_drop]
theorem err_zero {c : List UInt8} (h : (unpack c).2 ≠ 0) : (unpack c).1 = F.zero := by
  rw [unpack] at h ⊢
  by_cases h1 : (first c).2.2 ≠ 0
  · rw [if_pos h1]
  rw [if_neg h1] at h ⊢
  by_cases h2 : (first c).2.1 ≠ c.length
  · rw [if_pos h2]
  rw [if_neg h2] at h
  exact absurd rfl h
theorem turned_bad (p : List UInt8) (a j : Nat) (d : Nat → UInt8) (hj : j ≤ 4) (h : a + j ≤ (whole p).length) (hd : ∃ k, k < j ∧ d k ≠ 0) : ∃ er : Int, unpack (Crc.turnedBy (whole p) a j d) = (F.zero, er) ∧ er ≠ 0 := by
  have he : (unpack (Crc.turnedBy (whole p) a j d)).2 ≠ 0 := by
    intro h0
    obtain ⟨p', hp⟩ := ok_shape h0
    have h1 := Crc.residue p'
    rw [← hp, ← Crc.residue p] at h1
    obtain ⟨k, hk, hne⟩ := hd
    exact hne ((Crc.apart (whole p) a j d hj h).1 h1 k hk)
  exact ⟨_, by rw [← err_zero he], he⟩
theorem turned_same (b : List UInt8) (a j : Nat) (d : Nat → UInt8) (hd : ∀ k, k < j → d k = 0) : Crc.turnedBy b a j d = b := by
  apply List.ext_getElem
  · exact Crc.turnedBy_length _ _ _ _
  · intro i h1 h2
    rw [Crc.turnedBy_get _ _ _ _ _ h2]
    split
    · next h => rw [hd _ (by omega)]; simp
    · simp
end Frm
end Go.Proofs.Ytjlmcjegfbnhpaa
