/- Scripts of calls of an end that came in, at a seat of the link's. -/
import Derived.Test.YtmmkjphkfhgcpaaLinkOpen
namespace Go.Proofs.Ytmmkjphkfhgcpaa
open Go.ChangeShapes Go.WideShapes Go.ChangeAt Go.RowKit
set_option linter.unusedVariables false
/-- a call: its kind, its frame -/
abbrev LOp := Int × Fr
def InLOps (w : World) (B : Nat) (A : Option Addr) (r : List LOp) : Prop :=
  ∀ (i : Nat) (x : LOp), r[i]? = some x → ∃ ad : Addr, A = some ad ∧ ad.block < B ∧ w.cell? (ad.add (i * 6)) = some (.int .i64 x.1) ∧ w.cell? (ad.add (i * 6 + 1)) = some (.int .i64 x.2.1) ∧ w.cell? (ad.add (i * 6 + 2)) = some (.int .i64 x.2.2.1) ∧ w.cell? (ad.add (i * 6 + 3)) = some (.int .i64 x.2.2.2.1) ∧
    w.cell? (ad.add (i * 6 + 4)) = some (.int .i64 x.2.2.2.2.1) ∧ w.cell? (ad.add (i * 6 + 5)) = some (.slice x.2.2.2.2.2.2.1 x.2.2.2.2.2.1.length x.2.2.2.2.2.2.2) ∧ RdB w B x.2.2.2.2.2.2.1 x.2.2.2.2.2.1 ∧ x.2.2.2.2.2.1.length ≤ x.2.2.2.2.2.2.2 ∧ x.2.2.2.2.2.2.2 ≤ 140737488351232 ∧
    x.2.2.2.1 ≤ 9223372036854775807 ∧ x.2.2.2.2.1 ≤ 9223372036854775807
theorem InLOps.below {w w' : World} {B : Nat} {A : Option Addr} {r : List LOp} (h : InLOps w B A r) (hb : Below B w w') : InLOps w' B A r := fun i x hx => by
  obtain ⟨ad, e, hl, h0, h1, h2, h3, h4, h5, h6, r⟩ := h i x hx
  have hc : ∀ j, w'.cell? (ad.add j) = w.cell? (ad.add j) := fun j => hb.cell (p := ad.add _) (by rw [block_of_add]; exact hl)
  exact ⟨ad, e, hl, (hc _).trans h0, (hc _).trans h1, (hc _).trans h2, (hc _).trans h3, (hc _).trans h4, (hc _).trans h5, h6.below hb, r⟩
section
variable {H : Type} {enc : TypeId × Value → H} {W : World} {k : DataW H → Prop}
theorem trod_lop {fuel : Nat} {cs : List Value} {d : DataW H} {p : List MemPlace} (hf : DataW.trod enc Try.prog W 0 (fun _ => true) true fuel 59 cs = some (d, p))
    (hlt : ∀ x ∈ p, x.block < W.heap.size) (h3 : ∀ n ∈ d.weights Try.prog 59, n ≤ reachBytes) :
    ∃ (kd v e s a : Int) (A : Option Addr) (b : List UInt8) (c : Nat), cs = [.int .i64 kd, .int .i64 v, .int .i64 e, .int .i64 s, .int .i64 a, .slice A b.length c] ∧ (-9223372036854775808 ≤ s ∧ s ≤ 9223372036854775807) ∧ (-9223372036854775808 ≤ a ∧ a ≤ 9223372036854775807) ∧ b.length ≤ c ∧ c ≤ 140737488351232 ∧ RdB W W.heap.size A b := by
  obtain ⟨xs, n, _, hx, hl, hlen, hs⟩ := DataW.trod_struct Try.underlying59 hf
  have hl : cs.length = 6 := hl.trans (by kernel_rfl)
  match cs, hl, xs, hlen with
  | [c0, c1, c2, c3, c4, c5], _, [y0, y1], _ =>
    simp only [Prod.mk.injEq] at hx
    obtain ⟨rfl, rfl⟩ := hx
    have e0 : DataW.trod enc Try.prog W 0 (fun _ => true) true n 3 [c0] = some y0 := hs 0 _ rfl
    have e1 : DataW.trod enc Try.prog W 0 (fun _ => true) true n 31 [c1, c2, c3, c4, c5] = some y1 := hs 1 _ rfl
    obtain ⟨kd, rfl, _⟩ := cell_i64 Try.underlying3 e0
    obtain ⟨v, e, s, a, A, b, c, e2, _, _, g1, g2, g3, g4, g5⟩ := trod_frame (d := y1.1) (p := y1.2) e1 (fun x hx => hlt x (by simp [hx])) (fun m hm => h3 m (by
      simp [DataW.weights, Try.underlying59, DataW.weightsEach, hm]))
    exact ⟨kd, v, e, s, a, A, b, c, by rw [e2], g1, g2, g3, g4, g5⟩
theorem Came.lops {x : Value} (h : Came enc Try.prog W k 54 x) :
    ∃ (A : Option Addr) (c : Nat) (r : List LOp), x = .slice A r.length c ∧ r.length ≤ c ∧ c ≤ 9223372036854775807 ∧ InLOps W W.heap.size A r := by
  obtain ⟨d, p, base, h1, hok, h3, _⟩ := h
  have lt0 : ∀ x ∈ p, x.block < W.heap.size := by obtain ⟨m, hm⟩ := h1; exact DataW.trod_lt m _ _ _ hm
  obtain ⟨fuel, hf⟩ := h1
  obtain ⟨A0, n0, c0, rfl⟩ := okWide_slice Try.underlying54 hok
  obtain ⟨A, n, c, e0, e1, _, e2, hel⟩ := open_slice (s := 6) (y := (d, p)) Try.underlying54 (by kernel_rfl) (by omega) (by simpa [Value.cells] using hf) lt0 h3
  obtain ⟨r, hr, hR⟩ := choose_list (R := fun i (x : LOp) => ∃ ad : Addr, A = some ad ∧ ad.block < W.heap.size ∧ W.cell? (ad.add (i * 6)) = some (.int .i64 x.1) ∧ W.cell? (ad.add (i * 6 + 1)) = some (.int .i64 x.2.1) ∧ W.cell? (ad.add (i * 6 + 2)) = some (.int .i64 x.2.2.1) ∧ W.cell? (ad.add (i * 6 + 3)) = some (.int .i64 x.2.2.2.1) ∧
    W.cell? (ad.add (i * 6 + 4)) = some (.int .i64 x.2.2.2.2.1) ∧ W.cell? (ad.add (i * 6 + 5)) = some (.slice x.2.2.2.2.2.2.1 x.2.2.2.2.2.1.length x.2.2.2.2.2.2.2) ∧ RdB W W.heap.size x.2.2.2.2.2.2.1 x.2.2.2.2.2.1 ∧ x.2.2.2.2.2.1.length ≤ x.2.2.2.2.2.2.2 ∧ x.2.2.2.2.2.2.2 ≤ 140737488351232 ∧
    x.2.2.2.1 ≤ 9223372036854775807 ∧ x.2.2.2.2.1 ≤ 9223372036854775807) n (fun i hi => by
    obtain ⟨ad, cs, z, m, g1, g2, g3, g4, g5, g6⟩ := hel i hi
    obtain ⟨kd, v, e, s, a, B, b, cb, rfl, q1, q2, q3, q4, q5⟩ := trod_lop (d := z.1) (p := z.2) g4 g5 g6
    exact ⟨(kd, v, e, s, a, b, B, cb), ad, g1, g2, g3 0 _ rfl, g3 1 _ rfl, g3 2 _ rfl, g3 3 _ rfl, g3 4 _ rfl, g3 5 _ rfl, q5, q3, q4, q1.2, q2.2⟩)
  exact ⟨A, c, r, by rw [e0, hr], by omega, e2, hR⟩
end
end Go.Proofs.Ytmmkjphkfhgcpaa
