/- The cyclic sum in plain words: steps, bytes taken in, what is linear in it. No program in sight. -/
namespace Go.Proofs.Ytihllggpeglbnaa.Crc
abbrev W32 := BitVec 32
def poly : W32 := 0xedb88320#32
def step (s : W32) : W32 := (s >>> 1) ^^^ (if s.getLsbD 0 then poly else 0#32)
def stepN : Nat → W32 → W32
  | 0, s => s
  | n + 1, s => stepN n (step s)
def byteIn (s : W32) (b : UInt8) : W32 := stepN 8 (s ^^^ b.toBitVec.setWidth 32)
def raw (s : W32) (l : List UInt8) : W32 := l.foldl byteIn s
def more (s : W32) (l : List UInt8) : W32 := ~~~ raw (~~~ s) l

theorem stepN_succ (n : Nat) (s : W32) : stepN (n + 1) s = step (stepN n s) := by
  induction n generalizing s with
  | zero => rfl
  | succ n ih => rw [stepN, ih]; rfl
theorem step_xor (a b : W32) : step (a ^^^ b) = step a ^^^ step b := by
  unfold step
  rw [BitVec.ushiftRight_xor_distrib, BitVec.getLsbD_xor]
  generalize a >>> 1 = x
  generalize b >>> 1 = y
  cases a.getLsbD 0 <;> cases b.getLsbD 0 <;> simp
  · rw [BitVec.xor_assoc]
  · rw [BitVec.xor_assoc, BitVec.xor_assoc, BitVec.xor_comm y]
  · rw [BitVec.xor_assoc, BitVec.xor_comm poly, BitVec.xor_assoc y, BitVec.xor_self, BitVec.xor_zero]
theorem stepN_xor (n : Nat) (a b : W32) : stepN n (a ^^^ b) = stepN n a ^^^ stepN n b := by
  induction n generalizing a b with
  | zero => rfl
  | succ n ih => rw [stepN, step_xor, ih]; rfl
theorem raw_nil (s : W32) : raw s [] = s := rfl
theorem raw_cons (s : W32) (b : UInt8) (l : List UInt8) : raw s (b :: l) = raw (byteIn s b) l := rfl
theorem raw_append (s : W32) (a b : List UInt8) : raw s (a ++ b) = raw (raw s a) b := by
  unfold raw; rw [List.foldl_append]
theorem raw_snoc (s : W32) (a : List UInt8) (c : UInt8) : raw s (a ++ [c]) = byteIn (raw s a) c := by
  rw [raw_append]; rfl
theorem more_append (s : W32) (a b : List UInt8) : more s (a ++ b) = more (more s a) b := by
  unfold more; rw [raw_append, BitVec.not_not]

end Go.Proofs.Ytihllggpeglbnaa.Crc
