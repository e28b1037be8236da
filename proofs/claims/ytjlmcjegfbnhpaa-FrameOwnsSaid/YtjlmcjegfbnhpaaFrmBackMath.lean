/- What is packed is unpacked, in plain words. No program in sight. -/
import Derived.Test.YtjlmcjegfbnhpaaFrmFirstMath
namespace Go.Proofs.Ytjlmcjegfbnhpaa.Frm
set_option linter.unusedVariables false
theorem word_at (p r : List UInt8) (m : Nat) (hm : m < 4294967296) (b : List UInt8) (hb : b = p ++ (Num.fx 4 m ++ r)) (at' : Nat) (hp : p.length = at') : word b at' = m := by
  subst hb hp
  rw [word, List.drop_left, List.take_append_of_le_length (by rw [Num.fx_length]; omega), List.take_of_length_le (by rw [Num.fx_length]; omega), Num.tf_fx]
  rw [Nat.zero_mul, Nat.zero_add]
  exact Nat.mod_eq_of_lt hm
/-- a good frame -/
structure Good (v e s a : Nat) (t : List UInt8) : Prop where
  v1 : 1 ≤ v
  v2 : v ≤ 255
  e : e < 4294967296
  s : s < 4294967296
  a : a < 4294967296
  t : t.length ≤ 1048576
theorem pack_good {v e s a : Nat} {t : List UInt8} (h : Good v e s a t) : pack ⟨v, e, s, a, t⟩ = (whole (plain ⟨v, e, s, a, t⟩), 0) := by
  have h1 := h.v1; have h2 := h.v2; have h3 := h.e; have h4 := h.s; have h5 := h.a; have h6 := h.t
  rw [pack, if_neg (by unfold Bad; simp only; omega), if_neg (by simp only; omega)]
theorem plain_split (v e s a : Nat) (t r : List UInt8) : plain ⟨v, e, s, a, t⟩ ++ r = UInt8.ofNat v :: (Num.fx 4 e ++ (Num.fx 4 s ++ (Num.fx 4 a ++ (Num.fx 4 t.length ++ (t ++ r))))) := by
  simp only [plain, nums, Int.toNat_natCast, List.flatMap_cons, List.flatMap_nil, List.append_nil, List.cons_append, List.append_assoc]
theorem take_plain (v e s a : Nat) (t r : List UInt8) : (plain ⟨v, e, s, a, t⟩ ++ r).take (17 + t.length) = plain ⟨v, e, s, a, t⟩ := by
  have hl := plain_len ⟨v, e, s, a, t⟩
  have hl : (plain ⟨v, e, s, a, t⟩).length = 17 + t.length := hl
  rw [← hl, List.take_left]
theorem drop_plain (v e s a : Nat) (t r : List UInt8) : (plain ⟨v, e, s, a, t⟩ ++ r).drop (17 + t.length) = r := by
  have hl : (plain ⟨v, e, s, a, t⟩).length = 17 + t.length := plain_len ⟨v, e, s, a, t⟩
  rw [← hl, List.drop_left]
theorem body_plain (v e s a : Nat) (t r : List UInt8) : ((plain ⟨v, e, s, a, t⟩ ++ r).drop 17).take t.length = t := by
  rw [plain_split]
  have hl : (UInt8.ofNat v :: (Num.fx 4 e ++ (Num.fx 4 s ++ (Num.fx 4 a ++ Num.fx 4 t.length)))).length = 17 := by
    simp only [List.length_cons, List.length_append, Num.fx_length]
  have hs : UInt8.ofNat v :: (Num.fx 4 e ++ (Num.fx 4 s ++ (Num.fx 4 a ++ (Num.fx 4 t.length ++ (t ++ r))))) = (UInt8.ofNat v :: (Num.fx 4 e ++ (Num.fx 4 s ++ (Num.fx 4 a ++ Num.fx 4 t.length)))) ++ (t ++ r) := by
    simp only [List.cons_append, List.append_assoc]
  rw [hs, ← hl, List.drop_left, List.take_left]
section
variable {v e s a : Nat} {t : List UInt8} (h : Good v e s a t) (r : List UInt8)
include h
theorem word1 : word (plain ⟨v, e, s, a, t⟩ ++ r) 1 = e := word_at [UInt8.ofNat v] _ e h.e _ (by rw [plain_split]; rfl) 1 rfl
theorem word5 : word (plain ⟨v, e, s, a, t⟩ ++ r) 5 = s := word_at (UInt8.ofNat v :: Num.fx 4 e) (Num.fx 4 a ++ (Num.fx 4 t.length ++ (t ++ r))) s h.s _ (by rw [plain_split]; simp only [List.cons_append]) 5 (by rw [List.length_cons, Num.fx_length])
theorem word9 : word (plain ⟨v, e, s, a, t⟩ ++ r) 9 = a := word_at (UInt8.ofNat v :: (Num.fx 4 e ++ Num.fx 4 s)) (Num.fx 4 t.length ++ (t ++ r)) a h.a _ (by rw [plain_split]; simp only [List.cons_append, List.append_assoc]) 9 (by rw [List.length_cons, List.length_append, Num.fx_length, Num.fx_length])
theorem word13 : word (plain ⟨v, e, s, a, t⟩ ++ r) 13 = t.length := word_at (UInt8.ofNat v :: (Num.fx 4 e ++ (Num.fx 4 s ++ Num.fx 4 a))) (t ++ r) t.length (by have := h.t; omega) _ (by rw [plain_split]; simp only [List.cons_append, List.append_assoc]) 13 (by rw [List.length_cons, List.length_append, List.length_append, Num.fx_length, Num.fx_length, Num.fx_length])
theorem ver_toNat : (UInt8.ofNat v).toNat = v := by
  have := h.v2
  rw [UInt8.toNat_ofNat']
  omega
/-- a packed frame with whatever behind it: the frame stands at the front -/
theorem first_whole : first (whole (plain ⟨v, e, s, a, t⟩) ++ r) = (⟨v, e, s, a, t⟩, t.length + 21, 0) := by
  have hb : whole (plain ⟨v, e, s, a, t⟩) ++ r = plain ⟨v, e, s, a, t⟩ ++ (le4 (Crc.more 0#32 (plain ⟨v, e, s, a, t⟩)).toNat ++ r) := by rw [whole, List.append_assoc]
  generalize hq : le4 (Crc.more 0#32 (plain ⟨v, e, s, a, t⟩)).toNat ++ r = x at hb
  have w1 := word1 h x
  have w5 := word5 h x
  have w9 := word9 h x
  have w13 := word13 h x
  have hv := ver_toNat h
  have h1 := h.v1; have h2 := h.v2; have h6 := h.t
  have hl : (plain ⟨v, e, s, a, t⟩ ++ x).length = 17 + t.length + x.length := by rw [List.length_append, plain_len]
  have hx : 4 ≤ x.length := by rw [← hq, List.length_append]; simp [le4]
  have hcrc : crc (plain ⟨v, e, s, a, t⟩ ++ x) = (Crc.more 0#32 (plain ⟨v, e, s, a, t⟩)).toNat := by rw [crc, w13, take_plain]
  have hsum : ((plain ⟨v, e, s, a, t⟩ ++ x).drop (17 + word (plain ⟨v, e, s, a, t⟩ ++ x) 13)).take 4 = le4 (crc (plain ⟨v, e, s, a, t⟩ ++ x)) := by
    rw [hcrc, w13, drop_plain, ← hq]
    rfl
  rw [hb]
  have hf : first (plain ⟨v, e, s, a, t⟩ ++ x) = firstAt (plain ⟨v, e, s, a, t⟩ ++ x) (UInt8.ofNat v) := rfl
  rw [hf, firstAt, hv, if_neg (by omega), if_neg (by omega), if_neg (by omega), if_neg (by omega), if_neg (by rw [hsum]; exact fun h => h rfl), got, hv, w1, w5, w9, w13, body_plain]
theorem unpack_whole : unpack (whole (plain ⟨v, e, s, a, t⟩)) = (⟨v, e, s, a, t⟩, 0) := by
  have hf := first_whole h []
  rw [List.append_nil] at hf
  have hl : (whole (plain ⟨v, e, s, a, t⟩)).length = t.length + 21 := by
    rw [whole_len, plain_len]
    show 17 + t.length + 4 = _
    omega
  rw [unpack, hf]
  simp [hl]
theorem unpack_more (m : UInt8) : unpack (whole (plain ⟨v, e, s, a, t⟩) ++ [m]) = (F.zero, 3) := by
  have hl : (whole (plain ⟨v, e, s, a, t⟩) ++ [m]).length = t.length + 22 := by
    rw [List.length_append, whole_len, plain_len]
    show 17 + t.length + 4 + 1 = _
    omega
  rw [unpack, first_whole h]
  simp [hl]
end
end Go.Proofs.Ytjlmcjegfbnhpaa.Frm
