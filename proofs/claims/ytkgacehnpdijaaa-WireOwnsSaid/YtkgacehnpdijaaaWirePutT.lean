/- A body under way beside a block that stays; the program's put. -/
import Derived.Test.YtkgacehnpdijaaaWireEq
namespace Go.Proofs.Ytkgacehnpdijaaa
set_option linter.unusedVariables false
open Go.RowKit Wire

/-- the bytes under way, and a block gg that stays -/
structure BldT (w u : World) (g gg : Nat) (cs : Array Value) (ty : TypeId) (ns : Array Value) (l : List UInt8) (b : Value) : Prop where
  bld : Bld w u g cs l b
  blk : Blk u gg ty ns
  ne : ∀ A n c, b = .slice A n c → ∀ k, (Value.slice A n c).ownBlock = some k → k ≠ gg
theorem BldT.go {w u u' : World} {g gg : Nat} {cs ns : Array Value} {ty : TypeId} {l : List UInt8} {b : Value} (h : BldT w u g gg cs ty ns l b) (hb : Below u.heap.size u u') : BldT w u' g gg cs ty ns l b := ⟨h.bld.go hb, h.blk.below hb h.blk.lt, h.ne⟩
theorem putBldT {w u u' : World} {g gg : Nat} {cs ns : Array Value} {ty : TypeId} {l : List UInt8} {A : Option Addr} {n c : Nat} {e : Ending} {xs : List Value} (hg : w.heap.size ≤ g) (hm : Mem w u [(g, 28, cs)]) (ho : u.ownsRow (g + 1) 5 1 (.slice A n c) n xs) (hk : Blk u gg ty ns) (hne : ∀ k, (Value.slice A n c).ownBlock = some k → k ≠ gg) (h : PutRes u (g + 1) (Value.slice A n c).ownBlock l e u') :
    ∃ b, e = .returned b ∧ BldT w u' g gg cs ty ns l b := by
  obtain ⟨b, rfl, hbld⟩ := putBld hg hm ho h
  refine ⟨b, rfl, hbld, ?_, ?_⟩
  · obtain ⟨A2, n2, c2, e2, h1, h3, h4, h5, h6⟩ := h
    exact hk.grown h4 fun he => hne gg he.symm rfl
  · obtain ⟨A2, n2, c2, e2, h1, h3, h4, h5, h6⟩ := h
    injection e2 with e2
    subst e2
    intro A n c he k hk2 hkg
    rw [← he] at hk2
    subst hkg
    rcases h6 with h6 | h6
    · rw [h6] at hk2; exact hne _ hk2 rfl
    · have := h6 _ hk2
      have := hk.lt
      omega
/-- one part more -/
theorem put1_bldT {w u u1 : World} {g gg : Nat} {cs ns : Array Value} {ty : TypeId} {l l1 : List UInt8} {A A1 : Option Addr} {n c n1 c1 : Nat} (hg : w.heap.size ≤ g) (h : BldT w u g gg cs ty ns l (.slice A n c)) (hn1 : l1.length = n1) (ho1 : u1.ownsRow u.heap.size 5 1 (.slice A1 n1 c1) n1 (l1.map Bv)) (hb : Below u.heap.size u u1) (hl : l.length + l1.length ≤ 140737488351232) :
    Calls Try.prog 45 #[.slice A n c, .slice (some ⟨u1.heap.size, 0, none⟩) 1 1] (u1.alloc (.cells #[.slice A1 n1 c1] 31)) fun e w' => ∃ b, e = .returned b ∧ BldT w w' g gg cs ty ns (l ++ l1) b := by
  obtain ⟨hn, ho⟩ := (h.go hb).bld.own
  have hgl := (h.go hb).bld.mem.blk0.lt
  refine (put_new l A n c [⟨l1, A1, n1, c1⟩] (g + 1) u1 hn ho (allC ((ptr_own hn1 ho1).at_ fun k hk => .inl (h.bld.lt k hk)) all0) hgl (by simp [cat]; omega) (by simp)).mono fun e w' hr => ?_
  have hr2 : PutRes u1 (g + 1) (Value.slice A n c).ownBlock (l ++ l1) e w' := by simpa [cat] using hr
  exact putBldT hg (h.go hb).bld.mem ho (h.go hb).blk (fun k hk => h.ne A n c rfl k hk) hr2
/-- six parts more -/
theorem vput6 {w X : World} {g gg gx lo r1 r2 r3 r4 r5 r6 : Nat} {cs ns : Array Value} {ty : TypeId} {l p1 p2 p3 p4 p5 p6 : List UInt8} {A A1 A2 A3 A4 A5 A6 : Option Addr} {n c n1 n2 n3 n4 n5 n6 c1 c2 c3 c4 c5 c6 : Nat} (hg : w.heap.size ≤ g) (h : BldT w X g gg cs ty ns l (.slice A n c)) (hlo : ∀ k, (Value.slice A n c).ownBlock = some k → k < lo)
    (h1 : PtR lo r1 ⟨p1, A1, n1, c1⟩ X) (h2 : PtR lo r2 ⟨p2, A2, n2, c2⟩ X) (h3 : PtR lo r3 ⟨p3, A3, n3, c3⟩ X) (h4 : PtR lo r4 ⟨p4, A4, n4, c4⟩ X) (h5 : PtR lo r5 ⟨p5, A5, n5, c5⟩ X) (h6 : PtR lo r6 ⟨p6, A6, n6, c6⟩ X) (hl : l.length + (p1 ++ (p2 ++ (p3 ++ (p4 ++ (p5 ++ p6))))).length ≤ 140737488351232) (hx : X.heap.size = gx) :
    Calls Try.prog 45 #[.slice A n c, .slice (some ⟨gx, 0, none⟩) 6 6] (X.alloc (.cells #[.slice A1 n1 c1, .slice A2 n2 c2, .slice A3 n3 c3, .slice A4 n4 c4, .slice A5 n5 c5, .slice A6 n6 c6] 31)) fun e w' => ∃ b, e = .returned b ∧ BldT w w' g gg cs ty ns (l ++ (p1 ++ (p2 ++ (p3 ++ (p4 ++ (p5 ++ p6)))))) b ∧ ∀ h ty2 cs2, Blk X h ty2 cs2 → (∀ k, (Value.slice A n c).ownBlock = some k → k ≠ h) → Blk w' h ty2 cs2 := by
  obtain ⟨hn, ho⟩ := h.bld.own
  have e : cat [⟨p1, A1, n1, c1⟩, ⟨p2, A2, n2, c2⟩, ⟨p3, A3, n3, c3⟩, ⟨p4, A4, n4, c4⟩, ⟨p5, A5, n5, c5⟩, ⟨p6, A6, n6, c6⟩] = p1 ++ (p2 ++ (p3 ++ (p4 ++ (p5 ++ p6)))) := by simp [cat]
  refine (put_newg l A n c [⟨p1, A1, n1, c1⟩, ⟨p2, A2, n2, c2⟩, ⟨p3, A3, n3, c3⟩, ⟨p4, A4, n4, c4⟩, ⟨p5, A5, n5, c5⟩, ⟨p6, A6, n6, c6⟩] (g + 1) X gx hx hn ho (allC (h1.at_ fun k hk => .inl (hlo k hk)) (allC (h2.at_ fun k hk => .inl (hlo k hk)) (allC (h3.at_ fun k hk => .inl (hlo k hk)) (allC (h4.at_ fun k hk => .inl (hlo k hk)) (allC (h5.at_ fun k hk => .inl (hlo k hk)) (allC (h6.at_ fun k hk => .inl (hlo k hk)) all0)))))) h.bld.mem.blk0.lt (by rw [e]; omega) (by simp)).mono fun e1 w' hr => ?_
  rw [e] at hr
  obtain ⟨b, rfl, hb⟩ := putBldT hg h.bld.mem ho h.blk (fun k hk => h.ne A n c rfl k hk) hr
  refine ⟨b, rfl, hb, fun h2 ty2 cs2 hk hne => ?_⟩
  obtain ⟨A2, n2, c2, e2, q1, q3, q4, q5, q6⟩ := hr
  exact hk.grown q4 fun he => hne h2 he.symm rfl
theorem strB (s : ByteArray) : (!s.toList.isEmpty) = nzS s := by
  cases h : nzS s with
  | false => rw [strE h]; rfl
  | true => rw [strN h]; rfl
theorem lenB {α : Type} (l : List α) : (((l.length : Nat) : Int) != 0) = nzL l := by
  cases l with
  | nil => rfl
  | cons x r =>
    show (((r.length + 1 : Nat) : Int) != 0) = true
    simp
    omega
abbrev hasA (m : Ms) : Array Value := #[.bool (nzI m.id), .bool (nzI m.n), .bool (nzI m.ts), .bool (nzS m.lo), .bool (nzS m.hi), .bool (nzL m.vers), .bool (nzL m.vec), .bool (nzC m.cmd)]
theorem idx8 (b0 b1 b2 b3 b4 b5 b6 b7 : Bool) (w : World) : let a : Value := .agg #[.bool b0, .bool b1, .bool b2, .bool b3, .bool b4, .bool b5, .bool b6, .bool b7]
    (Instr.index 75 a (.int .i64 0)).run Try.prog w = .ok (.bool b0) w ∧ (Instr.index 75 a (.int .i64 1)).run Try.prog w = .ok (.bool b1) w ∧ (Instr.index 75 a (.int .i64 2)).run Try.prog w = .ok (.bool b2) w ∧ (Instr.index 75 a (.int .i64 3)).run Try.prog w = .ok (.bool b3) w ∧ (Instr.index 75 a (.int .i64 4)).run Try.prog w = .ok (.bool b4) w ∧ (Instr.index 75 a (.int .i64 5)).run Try.prog w = .ok (.bool b5) w ∧ (Instr.index 75 a (.int .i64 6)).run Try.prog w = .ok (.bool b6) w ∧ (Instr.index 75 a (.int .i64 7)).run Try.prog w = .ok (.bool b7) w := ⟨by kernel_rfl, by kernel_rfl, by kernel_rfl, by kernel_rfl, by kernel_rfl, by kernel_rfl, by kernel_rfl, by kernel_rfl⟩
theorem idx3 (b0 b1 b2 : Int) (w : World) : let a : Value := .agg #[.int .u64 b0, .int .u64 b1, .int .u64 b2]
    (Instr.index 76 a (.int .i64 0)).run Try.prog w = .ok (.int .u64 b0) w ∧ (Instr.index 76 a (.int .i64 1)).run Try.prog w = .ok (.int .u64 b1) w ∧ (Instr.index 76 a (.int .i64 2)).run Try.prog w = .ok (.int .u64 b2) w := ⟨by kernel_rfl, by kernel_rfl, by kernel_rfl⟩
theorem idx2 (b0 b1 : ByteArray) (w : World) : let a : Value := .agg #[.string b0, .string b1]
    (Instr.index 78 a (.int .i64 0)).run Try.prog w = .ok (.string b0) w ∧ (Instr.index 78 a (.int .i64 1)).run Try.prog w = .ok (.string b1) w := ⟨by kernel_rfl, by kernel_rfl⟩
/-- a mask's next bit -/
theorem or_bit (M : Int) (k : Nat) (hk : k < 8) (h0 : 0 ≤ M) (h1 : M < 2 ^ k) : bits BinOp.or IntKind.u8 M 0 = M ∧ bits BinOp.or IntKind.u8 M (2 ^ k) = M + 2 ^ k := by
  obtain ⟨n, rfl⟩ := Int.eq_ofNat_of_zero_le h0
  have hn : n < 2 ^ k := by
    have h2 : ((n : Int)) < ((2 ^ k : Nat) : Int) := by rw [Int.natCast_pow]; exact h1
    exact Int.ofNat_lt.1 h2
  have hp : 2 ^ k ≤ 2 ^ 7 := Nat.pow_le_pow_right (by omega) (by omega)
  constructor
  · have h := u8_or_nat n 0 (by omega) (by omega)
    rw [Nat.or_zero] at h
    exact h
  · have h := u8_or_nat n (2 ^ k) (by omega) (by omega)
    have e : n ||| 2 ^ k = n + 2 ^ k := by
      have := Nat.two_pow_add_eq_or_of_lt hn 1
      rw [Nat.mul_one] at this
      rw [Nat.or_comm, ← this, Nat.add_comm]
    rw [e] at h
    have e2 : ((2 : Int) ^ k) = ((2 ^ k : Nat) : Int) := by rw [Int.natCast_pow]; rfl
    rw [e2]
    exact h.trans (Int.natCast_add n (2 ^ k))
theorem nI_no {n : Int} (h : nzI n = false) : nI n = [] := by unfold nI; rw [h]; rfl
theorem nI_yes {n : Int} (h : nzI n = true) : nI n = Num.uv n.toNat := by unfold nI; rw [h]; rfl
theorem nS_no {s : ByteArray} (h : nzS s = false) : nS s = [] := by unfold nS; rw [h]; rfl
theorem nS_yes {s : ByteArray} (h : nzS s = true) : nS s = txU s := by unfold nS; rw [h]; rfl
theorem BldT.as {w u : World} {g gg : Nat} {cs ns : Array Value} {ty : TypeId} {l l' : List UInt8} {b : Value} (h : BldT w u g gg cs ty ns l b) (e : l = l') : BldT w u g gg cs ty ns l' b := e ▸ h
theorem head_len {m : Ms} (g : Wire.Good m) (r : Rng m) (k : Nat) (hk : k ≤ 7) : (newHead m ++ newT m k).length ≤ 820010 := by
  have := new7_len g r k hk
  rw [List.length_append]
  simp only [newHead, List.length_cons, List.length_nil]
  omega
end Go.Proofs.Ytkgacehnpdijaaa
