/- Frames in plain words: their bytes, and what bytes hold as a frame. No program in sight. -/
import Derived.Test.YtjlmcjegfbnhpaaNumFixMath
import Derived.Test.YtjlmcjegfbnhpaaSumMath
namespace Go.Proofs.Ytjlmcjegfbnhpaa.Frm
set_option linter.unusedVariables false
structure F where
  ver : Int
  epoch : Int
  seq : Int
  ack : Int
  body : List UInt8
def F.zero : F := ⟨0, 0, 0, 0, []⟩
def In (n : Int) : Prop := -9223372036854775808 ≤ n ∧ n ≤ 9223372036854775807
structure Ok (f : F) : Prop where
  ver : In f.ver
  epoch : In f.epoch
  seq : In f.seq
  ack : In f.ack
/-- four bytes, the low one first -/
def le4 (n : Nat) : List UInt8 := [UInt8.ofNat n, UInt8.ofNat (n / 256), UInt8.ofNat (n / 65536), UInt8.ofNat (n / 16777216)]
def nums (f : F) : List Nat := [f.epoch.toNat, f.seq.toNat, f.ack.toNat, f.body.length]
/-- all but the sum -/
def plain (f : F) : List UInt8 := UInt8.ofNat f.ver.toNat :: ((nums f).flatMap (Num.fx 4) ++ f.body)
def whole (p : List UInt8) : List UInt8 := p ++ le4 (Crc.more 0#32 p).toNat
def Bad (f : F) : Prop := f.ver < 1 ∨ 255 < f.ver ∨ f.epoch < 0 ∨ 4294967296 ≤ f.epoch ∨ f.seq < 0 ∨ 4294967296 ≤ f.seq ∨ f.ack < 0 ∨ 4294967296 ≤ f.ack
instance (f : F) : Decidable (Bad f) := by unfold Bad; infer_instance
def pack (f : F) : List UInt8 × Int := if Bad f then ([], 1) else if 1048576 < f.body.length then ([], 6) else (whole (plain f), 0)
theorem plain_len (f : F) : (plain f).length = 17 + f.body.length := by
  simp [plain, nums, Num.fx_length]
  omega
theorem whole_len (p : List UInt8) : (whole p).length = p.length + 4 := by simp [whole, le4]
/-- the first byte and the first k numbers -/
def row (v : Nat) (l : List Nat) (k : Nat) : List UInt8 := UInt8.ofNat v :: (l.take k).flatMap (Num.fx 4)
theorem row_zero (v : Nat) (l : List Nat) : row v l 0 = [UInt8.ofNat v] := by simp [row]
theorem flat_len : ∀ (l : List Nat), (l.flatMap (Num.fx 4)).length = 4 * l.length
  | [] => rfl
  | a :: l => by
    rw [List.flatMap_cons, List.length_append, flat_len l, Num.fx_length, List.length_cons]
    omega
theorem row_len (v : Nat) (l : List Nat) (k : Nat) (h : k ≤ l.length) : (row v l k).length = 1 + 4 * k := by
  rw [row, List.length_cons, flat_len, List.length_take]
  omega
theorem row_succ (v : Nat) (l : List Nat) (k : Nat) (h : k < l.length) : row v l (k + 1) = row v l k ++ Num.fx 4 l[k] := by
  rw [row, row, List.take_add_one, List.getElem?_eq_getElem h, List.flatMap_append]
  simp only [Option.toList_some, List.flatMap_cons, List.flatMap_nil, List.append_nil, List.cons_append]
theorem row_all (v : Nat) (l : List Nat) : row v l l.length = UInt8.ofNat v :: l.flatMap (Num.fx 4) := by simp [row]
/-- the low k of four bytes -/
def low (n k : Nat) : List UInt8 := (List.range k).map fun i => UInt8.ofNat (n / 256 ^ i)
theorem low_len (n k : Nat) : (low n k).length = k := by simp [low]
theorem low_succ (n k : Nat) : low n (k + 1) = low n k ++ [UInt8.ofNat (n / 256 ^ k)] := by simp [low, List.range_succ]
theorem low_four (n : Nat) : low n 4 = le4 n := by
  show [UInt8.ofNat (n / 1), UInt8.ofNat (n / 256), UInt8.ofNat (n / 65536), UInt8.ofNat (n / 16777216)] = le4 n
  rw [Nat.div_one]
  rfl
end Go.Proofs.Ytjlmcjegfbnhpaa.Frm
