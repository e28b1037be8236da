/- Calls of a net that came in. -/
import Derived.Test.YtbclfiollfagmaaOpen
import Derived.Test.YtbclfiollfagmaaOpenRow
import Derived.Test.YtbclfiollfagmaaMem
namespace Go.Proofs.Ytbclfiollfagmaa
open Go.ChangeShapes Go.WideShapes Go.ChangeAt Go.RowKit
set_option linter.unusedVariables false
/-- a call: its kind, the way, the place, where to spoil by what, bytes -/
structure NOp where
  kd : Int
  f : Int
  t : Int
  i : Int
  at_ : Int
  m : UInt8
  l : List UInt8
  A : Option Addr
  c : Nat
def NOp.cells (o : NOp) : List Value := [.int .i64 o.kd, .int .i64 o.f, .int .i64 o.t, .int .i64 o.i, .int .i64 o.at_, .int .u8 (o.m.toNat : Int), .slice o.A o.l.length o.c]
/-- its bytes read; its numbers are numbers -/
structure NOp.Ok (o : NOp) (w : World) (B : Nat) : Prop where
  rd : RdB w B o.A o.l
  cap : o.l.length ≤ o.c
  room : o.c ≤ 140737488351232
  lo : -9223372036854775808 ≤ o.i
  hi : o.i ≤ 9223372036854775807
theorem NOp.Ok.below {o : NOp} {w w' : World} {B : Nat} (h : o.Ok w B) (hb : Below B w w') : o.Ok w' B := { h with rd := h.rd.below hb }
def InNOps (w : World) (B : Nat) (A : Option Addr) (r : List NOp) : Prop :=
  ∀ (i : Nat) (x : NOp), r[i]? = some x → (∃ ad : Addr, A = some ad ∧ ad.block < B ∧ ∀ (j : Nat) (v : Value), x.cells[j]? = some v → w.cell? (ad.add (i * 7 + j)) = some v) ∧ x.Ok w B
theorem InNOps.below {w w' : World} {B : Nat} {A : Option Addr} {r : List NOp} (h : InNOps w B A r) (hb : Below B w w') : InNOps w' B A r := fun i x hx => by
  obtain ⟨⟨ad, e, hl, hc⟩, ho⟩ := h i x hx
  exact ⟨⟨ad, e, hl, fun j v hj => (hb.cell (p := ad.add _) (by rw [block_of_add]; exact hl)).trans (hc j v hj)⟩, ho.below hb⟩
section
variable {H : Type} {enc : TypeId × Value → H} {W : World} {k : DataW H → Prop}
theorem cell_u8 {P : Program} {w : World} {base : Nat} {sp : Nat → Bool} {hd : Bool} {t : TypeId} {fuel : Nat} {c : Value} {x : DataW H × List MemPlace} (ht : P.underlying t = some (.int .u8)) (h : DataW.trod enc P w base sp hd fuel t [c] = some x) : ∃ m : UInt8, c = .int .u8 (m.toNat : Int) := by
  obtain ⟨n, hb, _, w⟩ := DataW.trod_int ht h
  obtain rfl : c = .int .u8 n := by simpa using hb
  simp [Lit.wf, IntKind.min, IntKind.max, IntKind.signed, IntKind.bits] at w
  refine ⟨UInt8.ofNat n.toNat, ?_⟩
  rw [UInt8.toNat_ofNat']
  congr 1
  omega
theorem trod_nop {fuel : Nat} {cs : List Value} {d : DataW H} {p : List MemPlace} (hf : DataW.trod enc Try.prog W 0 (fun _ => true) true fuel 47 cs = some (d, p))
    (hlt : ∀ x ∈ p, x.block < W.heap.size) (h3 : ∀ n ∈ d.weights Try.prog 47, n ≤ reachBytes) :
    ∃ o : NOp, cs = o.cells ∧ o.Ok W W.heap.size := by
  obtain ⟨xs, n, _, hx, hl, hlen, hs⟩ := DataW.trod_struct Try.underlying47 hf
  have hl : cs.length = 7 := hl.trans (by kernel_rfl)
  match cs, hl, xs, hlen with
  | [c0, c1, c2, c3, c4, c5, c6], _, [y0, y1, y2, y3, y4, y5, y6], _ =>
    simp only [Prod.mk.injEq] at hx
    obtain ⟨rfl, rfl⟩ := hx
    have e0 : DataW.trod enc Try.prog W 0 (fun _ => true) true n 3 [c0] = some y0 := hs 0 _ rfl
    have e1 : DataW.trod enc Try.prog W 0 (fun _ => true) true n 3 [c1] = some y1 := hs 1 _ rfl
    have e2 : DataW.trod enc Try.prog W 0 (fun _ => true) true n 3 [c2] = some y2 := hs 2 _ rfl
    have e3 : DataW.trod enc Try.prog W 0 (fun _ => true) true n 3 [c3] = some y3 := hs 3 _ rfl
    have e4 : DataW.trod enc Try.prog W 0 (fun _ => true) true n 3 [c4] = some y4 := hs 4 _ rfl
    have e5 : DataW.trod enc Try.prog W 0 (fun _ => true) true n 5 [c5] = some y5 := hs 5 _ rfl
    have e6 : DataW.trod enc Try.prog W 0 (fun _ => true) true n 31 [c6] = some y6 := hs 6 _ rfl
    obtain ⟨kd, rfl, _⟩ := cell_i64 Try.underlying3 e0
    obtain ⟨f, rfl, _⟩ := cell_i64 Try.underlying3 e1
    obtain ⟨t, rfl, _⟩ := cell_i64 Try.underlying3 e2
    obtain ⟨i, rfl, hi⟩ := cell_i64 Try.underlying3 e3
    obtain ⟨at_, rfl, _⟩ := cell_i64 Try.underlying3 e4
    obtain ⟨m, rfl⟩ := cell_u8 Try.underlying5 e5
    obtain ⟨A, b, c, rfl, g1, g2, g3⟩ := cell_bytes Try.underlying31 Try.underlying5 (by kernel_rfl) (by kernel_rfl) e6 (fun x hx => hlt x (by simp [hx])) (fun m hm => h3 m (by
      simp [DataW.weights, Try.underlying47, DataW.weightsEach, hm]))
    exact ⟨⟨kd, f, t, i, at_, m, b, A, c⟩, rfl, g3, g1, g2, hi.1, hi.2⟩
theorem Came.nop {x : Value} (h : Came enc Try.prog W k 47 x) : ∃ o : NOp, x = .agg o.cells.toArray ∧ o.Ok W W.heap.size := by
  obtain ⟨d, p, base, h1, hok, h3, _⟩ := h
  have lt0 : ∀ x ∈ p, x.block < W.heap.size := by obtain ⟨m, hm⟩ := h1; exact DataW.trod_lt m _ _ _ hm
  obtain ⟨fuel, hf⟩ := h1
  obtain ⟨cs, rfl, hs⟩ := okWide_struct Try.underlying47 hok
  obtain ⟨o, e0, r⟩ := trod_nop hf lt0 h3
  refine ⟨o, ?_, r⟩
  have e0 : cs.toList = o.cells := e0
  rw [← e0]
theorem Came.nops {x : Value} (h : Came enc Try.prog W k 41 x) :
    ∃ (A : Option Addr) (c : Nat) (r : List NOp), x = .slice A r.length c ∧ r.length ≤ c ∧ c ≤ 9223372036854775807 ∧ InNOps W W.heap.size A r := by
  obtain ⟨d, p, base, h1, hok, h3, _⟩ := h
  have lt0 : ∀ x ∈ p, x.block < W.heap.size := by obtain ⟨m, hm⟩ := h1; exact DataW.trod_lt m _ _ _ hm
  obtain ⟨fuel, hf⟩ := h1
  obtain ⟨A0, n0, c0, rfl⟩ := okWide_slice Try.underlying41 hok
  obtain ⟨A, n, c, e0, e1, _, e2, hel⟩ := open_slice (s := 7) (y := (d, p)) Try.underlying41 (by kernel_rfl) (by omega) (by simpa [Value.cells] using hf) lt0 h3
  obtain ⟨r, hr, hR⟩ := choose_list (R := fun i (x : NOp) => (∃ ad : Addr, A = some ad ∧ ad.block < W.heap.size ∧ ∀ (j : Nat) (v : Value), x.cells[j]? = some v → W.cell? (ad.add (i * 7 + j)) = some v) ∧ x.Ok W W.heap.size) n (fun i hi => by
    obtain ⟨ad, cs, z, m, g1, g2, g3, g4, g5, g6⟩ := hel i hi
    obtain ⟨o, rfl, q⟩ := trod_nop (d := z.1) (p := z.2) g4 g5 g6
    exact ⟨o, ⟨ad, g1, g2, fun j v hj => g3 j v hj⟩, q⟩)
  exact ⟨A, c, r, by rw [e0, hr], by omega, e2, hR⟩
end
end Go.Proofs.Ytbclfiollfagmaa
