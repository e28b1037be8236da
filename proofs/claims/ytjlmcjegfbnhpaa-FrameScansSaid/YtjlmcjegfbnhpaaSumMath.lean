/- The cyclic sum in plain words: steps, bytes taken in, what is linear in it. No program in sight. -/
namespace Go.Proofs.Ytjlmcjegfbnhpaa.Crc
abbrev W32 := BitVec 32
def poly : W32 := 0xedb88320#32
def step (s : W32) : W32 := (s >>> 1) ^^^ (if s.getLsbD 0 then poly else 0#32)
def stepN : Nat → W32 → W32
  | 0, s => s
  | n + 1, s => stepN n (step s)
def byteIn (s : W32) (b : UInt8) : W32 := stepN 8 (s ^^^ b.toBitVec.setWidth 32)
def raw (s : W32) (l : List UInt8) : W32 := l.foldl byteIn s
def more (s : W32) (l : List UInt8) : W32 := ~~~ raw (~~~ s) l

theorem stepN_succ (n : Nat) (s : W32) : stepN (n + 1) s = step (stepN n s) := by
  induction n generalizing s with
  | zero => rfl
  | succ n ih => rw [stepN, ih]; rfl
theorem step_xor (a b : W32) : step (a ^^^ b) = step a ^^^ step b := by
  unfold step
  rw [BitVec.ushiftRight_xor_distrib, BitVec.getLsbD_xor]
  generalize a >>> 1 = x
  generalize b >>> 1 = y
  cases a.getLsbD 0 <;> cases b.getLsbD 0 <;> simp
  · rw [BitVec.xor_assoc]
  · rw [BitVec.xor_assoc, BitVec.xor_assoc, BitVec.xor_comm y]
  · rw [BitVec.xor_assoc, BitVec.xor_comm poly, BitVec.xor_assoc y, BitVec.xor_self, BitVec.xor_zero]
theorem stepN_xor (n : Nat) (a b : W32) : stepN n (a ^^^ b) = stepN n a ^^^ stepN n b := by
  induction n generalizing a b with
  | zero => rfl
  | succ n ih => rw [stepN, step_xor, ih]; rfl
theorem raw_nil (s : W32) : raw s [] = s := rfl
theorem raw_cons (s : W32) (b : UInt8) (l : List UInt8) : raw s (b :: l) = raw (byteIn s b) l := rfl
theorem raw_append (s : W32) (a b : List UInt8) : raw s (a ++ b) = raw (raw s a) b := by
  unfold raw; rw [List.foldl_append]
theorem raw_snoc (s : W32) (a : List UInt8) (c : UInt8) : raw s (a ++ [c]) = byteIn (raw s a) c := by
  rw [raw_append]; rfl
theorem more_append (s : W32) (a b : List UInt8) : more s (a ++ b) = more (more s a) b := by
  unfold more; rw [raw_append, BitVec.not_not]

/-! ### what is linear in it -/
theorem byte_xor (x y : UInt8) : (x ^^^ y).toBitVec.setWidth 32 = x.toBitVec.setWidth 32 ^^^ y.toBitVec.setWidth 32 := by
  rw [UInt8.toBitVec_xor, BitVec.setWidth_xor]
theorem byteIn_xor (s t : W32) (x y : UInt8) : byteIn (s ^^^ t) (x ^^^ y) = byteIn s x ^^^ byteIn t y := by
  unfold byteIn
  rw [← stepN_xor, byte_xor]
  congr 1
  ac_rfl
/-- two texts put together bit by bit -/
def xor2 (a b : List UInt8) : List UInt8 := List.zipWith (fun x y => x ^^^ y) a b
theorem xor2_length (a b : List UInt8) : (xor2 a b).length = min a.length b.length := by simp [xor2]
theorem raw_xor2 (a b : List UInt8) : ∀ (s t : W32), a.length = b.length → raw (s ^^^ t) (xor2 a b) = raw s a ^^^ raw t b := by
  induction a generalizing b with
  | nil => intro s t h; cases b with | nil => rfl | cons y b => simp at h
  | cons x a ih =>
    intro s t h
    cases b with
    | nil => simp at h
    | cons y b =>
      have e : xor2 (x :: a) (y :: b) = (x ^^^ y) :: xor2 a b := rfl
      rw [e, raw_cons, raw_cons, raw_cons, byteIn_xor, ih b _ _ (by simpa using h)]
theorem not_eq (s : W32) : ~~~ s = s ^^^ BitVec.allOnes 32 := (BitVec.xor_allOnes).symm
theorem more_xor3 (a b c : List UInt8) (hab : a.length = b.length) (hbc : b.length = c.length) :
    more 0#32 (xor2 (xor2 a b) c) = more 0#32 a ^^^ more 0#32 b ^^^ more 0#32 c := by
  unfold more
  have e : ~~~ (0#32 : W32) = (~~~ (0#32 : W32) ^^^ ~~~ (0#32 : W32)) ^^^ ~~~ (0#32 : W32) := by decide
  rw [e, raw_xor2 (xor2 a b) c _ _ (by rw [xor2_length]; omega), raw_xor2 a b _ _ hab, ← e]
  generalize raw (~~~ (0#32 : W32)) a = x
  generalize raw (~~~ (0#32 : W32)) b = y
  generalize raw (~~~ (0#32 : W32)) c = z
  rw [not_eq (x ^^^ y ^^^ z), not_eq x, not_eq y, not_eq z]
  have e2 : BitVec.allOnes 32 = (BitVec.allOnes 32 ^^^ BitVec.allOnes 32) ^^^ BitVec.allOnes 32 := by decide
  conv => lhs; rw [e2]
  ac_rfl

/-! ### what it tells apart -/
theorem stepN_zero (n : Nat) : stepN n 0#32 = 0#32 := by
  induction n with
  | zero => rfl
  | succ n ih => rw [stepN_succ, ih]; decide
theorem raw_zeros (n : Nat) : raw 0#32 (List.replicate n 0) = 0#32 := by
  induction n with
  | zero => rfl
  | succ n ih =>
    rw [List.replicate_succ, raw_cons]
    have e : byteIn 0#32 0 = 0#32 := by decide
    rw [e, ih]
/-- a step back -/
def back (s : W32) : W32 := if s.getLsbD 31 then ((s ^^^ poly) <<< 1) ||| 1#32 else s <<< 1
theorem back_step (s : W32) : back (step s) = s := by
  have top : (s >>> 1).getLsbD 31 = false := by simp
  unfold back step
  cases h : s.getLsbD 0
  · simp only [Bool.false_eq_true, if_false, BitVec.xor_zero, top]
    apply BitVec.eq_of_getLsbD_eq
    intro i hi
    rw [BitVec.getLsbD_shiftLeft, BitVec.getLsbD_ushiftRight]
    by_cases hi0 : i = 0
    · subst hi0
      rw [h]; simp
    · have e : 1 + (i - 1) = i := by omega
      rw [e]
      simp [hi]; omega
  · simp only [if_true, BitVec.getLsbD_xor, top]
    have hp : poly.getLsbD 31 = true := by decide
    rw [hp]
    simp only [Bool.false_xor, if_true, BitVec.xor_assoc, BitVec.xor_self, BitVec.xor_zero]
    apply BitVec.eq_of_getLsbD_eq
    intro i hi
    rw [BitVec.getLsbD_or, BitVec.getLsbD_shiftLeft, BitVec.getLsbD_ushiftRight]
    by_cases hi0 : i = 0
    · subst hi0
      rw [h]; simp
    · have e : 1 + (i - 1) = i := by omega
      have e1 : (1#32).getLsbD i = false := by rw [BitVec.getLsbD_one]; simp [hi0]
      rw [e, e1]
      simp [hi]; omega
theorem step_back (s : W32) : step (back s) = s := by
  unfold back step
  cases h : s.getLsbD 31
  · simp only [Bool.false_eq_true, if_false]
    have e : (s <<< 1).getLsbD 0 = false := by simp
    rw [e]
    simp only [Bool.false_eq_true, if_false, BitVec.xor_zero]
    apply BitVec.eq_of_getLsbD_eq
    intro i hi
    rw [BitVec.getLsbD_ushiftRight, BitVec.getLsbD_shiftLeft]
    by_cases hi1 : i = 31
    · subst hi1; rw [h]; simp
    · have : 1 + i < 32 := by omega
      simp [this]
  · simp only [if_true]
    have e : (((s ^^^ poly) <<< 1) ||| 1#32).getLsbD 0 = true := by simp
    rw [e]
    simp only [if_true]
    apply BitVec.eq_of_getLsbD_eq
    intro i hi
    rw [BitVec.getLsbD_xor, BitVec.getLsbD_ushiftRight, BitVec.getLsbD_or, BitVec.getLsbD_shiftLeft, BitVec.getLsbD_xor]
    by_cases hi1 : i = 31
    · subst hi1
      have hp : poly.getLsbD 31 = true := by decide
      rw [h, hp]; simp
    · have h1 : 1 + i < 32 := by omega
      simp [h1]
theorem step_inj {a b : W32} (h : step a = step b) : a = b := by rw [← back_step a, h, back_step]
theorem stepN_inj (n : Nat) {a b : W32} (h : stepN n a = stepN n b) : a = b := by
  induction n with
  | zero => exact h
  | succ n ih => rw [stepN_succ, stepN_succ] at h; exact ih (step_inj h)
theorem raw_inj (l : List UInt8) : ∀ {s t : W32}, raw s l = raw t l → s = t := by
  induction l with
  | nil => intro s t h; exact h
  | cons b l ih =>
    intro s t h
    have := stepN_inj 8 (ih (s := byteIn s b) (t := byteIn t b) h)
    have h2 := congrArg (· ^^^ b.toBitVec.setWidth 32) this
    simpa [BitVec.xor_assoc] using h2
theorem step_low {y : W32} (h : y.getLsbD 31 = false) : step (y <<< 1) = y := by
  have := step_back y
  unfold back at this
  rw [h] at this
  simpa using this
/-- no bit from k on -/
def Lo (k : Nat) (v : W32) : Prop := ∀ i, k ≤ i → v.getLsbD i = false
theorem stepN_low (j : Nat) : ∀ {v : W32}, j ≤ 32 → Lo (32 - j) v → stepN j (v <<< j) = v := by
  induction j with
  | zero => intro v _ _; simp [stepN]
  | succ j ih =>
    intro v hj h
    have e : v <<< (j + 1) = (v <<< j) <<< 1 := by rw [BitVec.shiftLeft_add]
    rw [stepN, e, step_low, ih (by omega) (fun i hi => h i (by omega))]
    rw [BitVec.getLsbD_shiftLeft, h (31 - j) (by omega)]
    simp
def val : List UInt8 → W32
  | [] => 0#32
  | d :: ds => d.toBitVec.setWidth 32 ^^^ (val ds <<< 8)
theorem val_lo : ∀ (ds : List UInt8), ds.length ≤ 4 → Lo (8 * ds.length) (val ds)
  | [], _ => fun i _ => by simp [val]
  | d :: ds, h => fun i hi => by
    have ih := val_lo ds (by simp at h; omega)
    simp only [List.length_cons] at hi
    simp only [val, BitVec.getLsbD_xor, BitVec.getLsbD_setWidth, BitVec.getLsbD_shiftLeft]
    rw [ih (i - 8) (by omega), BitVec.getLsbD_of_ge _ i (by omega)]
    simp
theorem raw_val : ∀ (ds : List UInt8) {s : W32}, ds.length ≤ 4 → raw s ds = 0#32 → s = val ds
  | [], s, _, h => h
  | d :: ds, s, hl, h => by
    simp only [List.length_cons] at hl
    have h1 := raw_val ds (by omega) (show raw (byteIn s d) ds = 0#32 from h)
    have h2 : Lo (32 - 8) (val ds) := fun i hi => val_lo ds (by omega) i (by omega)
    have h3 : stepN 8 (s ^^^ d.toBitVec.setWidth 32) = stepN 8 (val ds <<< 8) := by rw [stepN_low 8 (by omega) h2]; exact h1
    have h4 := stepN_inj 8 h3
    rw [val, ← h4, BitVec.xor_comm s, ← BitVec.xor_assoc, BitVec.xor_self, BitVec.zero_xor]
theorem val_zero : ∀ (ds : List UInt8), ds.length ≤ 4 → val ds = 0#32 → ∀ d ∈ ds, d = 0
  | [], _, _ => by simp
  | d :: ds, hl, h => by
    simp only [List.length_cons] at hl
    have hb : ∀ i, (d.toBitVec.setWidth 32).getLsbD i = (val ds <<< 8).getLsbD i := fun i => by
      have := congrArg (fun v : W32 => v.getLsbD i) h
      simp only [val, BitVec.getLsbD_xor, BitVec.getLsbD_zero] at this
      revert this
      cases (d.toBitVec.setWidth 32).getLsbD i <;> cases (val ds <<< 8).getLsbD i <;> simp
    have hd : d = 0 := by
      apply UInt8.toBitVec_inj.1
      apply BitVec.eq_of_getLsbD_eq
      intro i hi
      have := hb i
      rw [BitVec.getLsbD_setWidth, BitVec.getLsbD_shiftLeft] at this
      have h1 : decide (i < 32) = true := by simp; omega
      have h2 : decide (i < 8) = true := by simp; omega
      rw [h1, h2] at this
      simpa using this
    have hv : val ds = 0#32 := by
      apply BitVec.eq_of_getLsbD_eq
      intro i hi
      by_cases hi8 : i < 24
      · have := hb (i + 8)
        rw [BitVec.getLsbD_setWidth, BitVec.getLsbD_of_ge d.toBitVec (i + 8) (by omega), BitVec.getLsbD_shiftLeft] at this
        have h1 : decide (i + 8 < 32) = true := by simp; omega
        have h2 : decide (i + 8 < 8) = false := by simp
        rw [h1, h2, Nat.add_sub_cancel] at this
        simpa using this.symm
      · rw [val_lo ds (by omega) i (by omega)]; simp
    intro x hx
    rcases List.mem_cons.1 hx with rfl | hx
    · exact hd
    · exact val_zero ds (by omega) hv x hx

/-- what is turned: d k at place a + k, for k below j; n bytes in all -/
def dl (n a j : Nat) (d : Nat → UInt8) : List UInt8 := (List.range n).map fun i => if a ≤ i ∧ i < a + j then d (i - a) else 0
theorem dl_length (n a j : Nat) (d : Nat → UInt8) : (dl n a j d).length = n := by simp [dl]
theorem dl_parts (n a j : Nat) (d : Nat → UInt8) (h : a + j ≤ n) : dl n a j d = List.replicate a 0 ++ ((List.range j).map d ++ List.replicate (n - a - j) 0) := by
  apply List.ext_getElem
  · simp [dl]; omega
  · intro i h1 h2
    simp only [dl, List.getElem_map, List.getElem_range, List.getElem_append, List.length_replicate, List.length_map, List.length_range, List.getElem_replicate]
    by_cases c1 : i < a
    · simp [c1]; omega
    · by_cases c2 : i - a < j
      · simp [c1, c2]; intro; omega
      · simp [c1, c2]; intro; omega
/-- the text with them turned -/
def turnedBy (b : List UInt8) (a j : Nat) (d : Nat → UInt8) : List UInt8 := xor2 b (dl b.length a j d)
theorem turnedBy_length (b : List UInt8) (a j : Nat) (d : Nat → UInt8) : (turnedBy b a j d).length = b.length := by simp [turnedBy, xor2_length, dl_length]
theorem turnedBy_zero (b : List UInt8) (a : Nat) (d : Nat → UInt8) : turnedBy b a 0 d = b := by
  apply List.ext_getElem
  · exact turnedBy_length _ _ _ _
  · intro i h1 h2
    simp [turnedBy, xor2, dl]
    rw [if_neg (by omega)]
    simp
theorem turnedBy_get (b : List UInt8) (a j : Nat) (d : Nat → UInt8) (i : Nat) (hi : i < b.length) : (turnedBy b a j d)[i]'(by rw [turnedBy_length]; exact hi) = b[i] ^^^ (if a ≤ i ∧ i < a + j then d (i - a) else 0) := by
  simp [turnedBy, xor2, dl]
theorem turnedBy_here (b : List UInt8) (a j : Nat) (d : Nat → UInt8) (h : a + j < b.length) : (turnedBy b a j d)[a + j]'(by rw [turnedBy_length]; exact h) = b[a + j] := by
  rw [turnedBy_get _ _ _ _ _ h, if_neg (by omega)]; simp
theorem turnedBy_set (b : List UInt8) (a j : Nat) (d : Nat → UInt8) (h : a + j < b.length) : (turnedBy b a j d).set (a + j) (b[a + j] ^^^ d j) = turnedBy b a (j + 1) d := by
  apply List.ext_getElem
  · rw [List.length_set, turnedBy_length, turnedBy_length]
  · intro i h1 h2
    rw [turnedBy_length] at h2
    rw [List.getElem_set]
    by_cases e : a + j = i
    · subst e
      rw [if_pos rfl, turnedBy_get _ _ _ _ _ h, if_pos ⟨by omega, by omega⟩]
      congr 2; omega
    · rw [if_neg e, turnedBy_get _ _ _ _ _ h2, turnedBy_get _ _ _ _ _ h2]
      congr 1
      by_cases c : a ≤ i ∧ i < a + j
      · rw [if_pos c, if_pos ⟨by omega, by omega⟩]
      · rw [if_neg c, if_neg (by omega)]
theorem xor2_back (b e : List UInt8) (h : b.length = e.length) : xor2 b (xor2 b e) = e := by
  apply List.ext_getElem
  · rw [xor2_length, xor2_length]; omega
  · intro i h1 h2
    simp only [xor2, List.getElem_zipWith]
    rw [← UInt8.xor_assoc, UInt8.xor_self, UInt8.zero_xor]
theorem more_eq_iff (b c : List UInt8) (h : b.length = c.length) : more 0#32 c = more 0#32 b ↔ raw 0#32 (xor2 b c) = 0#32 := by
  have e := raw_xor2 b c (~~~ 0#32) (~~~ 0#32) h
  rw [BitVec.xor_self] at e
  rw [e]
  unfold more
  generalize raw (~~~ 0#32) b = x
  generalize raw (~~~ 0#32) c = y
  constructor
  · intro hh
    have : y = x := by rw [← BitVec.not_not (b := y), hh, BitVec.not_not]
    rw [this, BitVec.xor_self]
  · intro hh
    have : y = x := by
      have := congrArg (x ^^^ ·) hh
      simpa [← BitVec.xor_assoc] using this
    rw [this]
/-- THE LAW: a text of which at most four bytes in a row are turned has the same sum only if none of them is. -/
theorem apart (b : List UInt8) (a j : Nat) (d : Nat → UInt8) (hj : j ≤ 4) (h : a + j ≤ b.length) :
    more 0#32 (turnedBy b a j d) = more 0#32 b ↔ ∀ k, k < j → d k = 0 := by
  rw [more_eq_iff b _ (turnedBy_length _ _ _ _).symm, turnedBy, xor2_back _ _ (dl_length _ _ _ _).symm, dl_parts _ _ _ _ h, raw_append, raw_append, raw_zeros]
  constructor
  · intro hh k hk
    have h1 : raw 0#32 ((List.range j).map d) = 0#32 := raw_inj (List.replicate (b.length - a - j) 0) (by rw [hh, raw_zeros])
    have h2 := raw_val _ (by simpa using hj) h1
    exact val_zero _ (by simpa using hj) h2.symm _ (List.mem_map.2 ⟨k, List.mem_range.2 hk, rfl⟩)
  · intro hh
    have e : (List.range j).map d = List.replicate j 0 := by
      apply List.ext_getElem
      · simp
      · intro i h1 h2
        simp at h1
        simp [hh i h1]
    rw [e, raw_zeros, raw_zeros]
end Go.Proofs.Ytjlmcjegfbnhpaa.Crc
