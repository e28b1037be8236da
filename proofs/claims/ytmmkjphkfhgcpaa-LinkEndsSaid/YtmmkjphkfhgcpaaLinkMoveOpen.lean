/- Moves between two ends that came in, at a seat of the link's. -/
import Derived.Test.YtmmkjphkfhgcpaaOpenRow
import Derived.Test.YtmmkjphkfhgcpaaMem
namespace Go.Proofs.Ytmmkjphkfhgcpaa
open Go.ChangeShapes Go.WideShapes Go.ChangeAt Go.RowKit
set_option linter.unusedVariables false
/-- a move: its kind, its place, its body (and where) -/
abbrev Mv := Int × Int × List UInt8 × Option Addr × Nat
def InMoves (w : World) (B : Nat) (A : Option Addr) (r : List Mv) : Prop :=
  ∀ (i : Nat) (x : Mv), r[i]? = some x → ∃ ad : Addr, A = some ad ∧ ad.block < B ∧ w.cell? (ad.add (i * 3)) = some (.int .i64 x.1) ∧ w.cell? (ad.add (i * 3 + 1)) = some (.int .i64 x.2.1) ∧ w.cell? (ad.add (i * 3 + 2)) = some (.slice x.2.2.2.1 x.2.2.1.length x.2.2.2.2) ∧
    RdB w B x.2.2.2.1 x.2.2.1 ∧ x.2.2.1.length ≤ x.2.2.2.2 ∧ x.2.2.2.2 ≤ 140737488351232
theorem InMoves.below {w w' : World} {B : Nat} {A : Option Addr} {r : List Mv} (h : InMoves w B A r) (hb : Below B w w') : InMoves w' B A r := fun i x hx => by
  obtain ⟨ad, e, hl, h0, h1, h2, h6, r⟩ := h i x hx
  have hc : ∀ j, w'.cell? (ad.add j) = w.cell? (ad.add j) := fun j => hb.cell (p := ad.add _) (by rw [block_of_add]; exact hl)
  exact ⟨ad, e, hl, (hc _).trans h0, (hc _).trans h1, (hc _).trans h2, h6.below hb, r⟩
section
variable {H : Type} {enc : TypeId × Value → H} {W : World} {k : DataW H → Prop}
theorem trod_mv {fuel : Nat} {cs : List Value} {d : DataW H} {p : List MemPlace} (hf : DataW.trod enc Try.prog W 0 (fun _ => true) true fuel 43 cs = some (d, p))
    (hlt : ∀ x ∈ p, x.block < W.heap.size) (h3 : ∀ n ∈ d.weights Try.prog 43, n ≤ reachBytes) :
    ∃ (kd i : Int) (A : Option Addr) (b : List UInt8) (c : Nat), cs = [.int .i64 kd, .int .i64 i, .slice A b.length c] ∧ b.length ≤ c ∧ c ≤ 140737488351232 ∧ RdB W W.heap.size A b := by
  obtain ⟨xs, n, _, hx, hl, hlen, hs⟩ := DataW.trod_struct Try.underlying43 hf
  have hl : cs.length = 3 := hl.trans (by kernel_rfl)
  match cs, hl, xs, hlen with
  | [c0, c1, c2], _, [y0, y1, y2], _ =>
    simp only [Prod.mk.injEq] at hx
    obtain ⟨rfl, rfl⟩ := hx
    have e0 : DataW.trod enc Try.prog W 0 (fun _ => true) true n 3 [c0] = some y0 := hs 0 _ rfl
    have e1 : DataW.trod enc Try.prog W 0 (fun _ => true) true n 3 [c1] = some y1 := hs 1 _ rfl
    have e2 : DataW.trod enc Try.prog W 0 (fun _ => true) true n 22 [c2] = some y2 := hs 2 _ rfl
    obtain ⟨kd, rfl, _⟩ := cell_i64 Try.underlying3 e0
    obtain ⟨i, rfl, _⟩ := cell_i64 Try.underlying3 e1
    obtain ⟨A, b, c, rfl, g1, g2, g3⟩ := cell_bytes Try.underlying22 Try.underlying5 (by kernel_rfl) (by kernel_rfl) e2 (fun x hx => hlt x (by simp [hx])) (fun m hm => h3 m (by
      simp [DataW.weights, Try.underlying43, DataW.weightsEach, hm]))
    exact ⟨kd, i, A, b, c, rfl, g1, g2, g3⟩
theorem Came.moves {x : Value} (h : Came enc Try.prog W k 37 x) :
    ∃ (A : Option Addr) (c : Nat) (r : List Mv), x = .slice A r.length c ∧ r.length ≤ c ∧ c ≤ 9223372036854775807 ∧ InMoves W W.heap.size A r := by
  obtain ⟨d, p, base, h1, hok, h3, _⟩ := h
  have lt0 : ∀ x ∈ p, x.block < W.heap.size := by obtain ⟨m, hm⟩ := h1; exact DataW.trod_lt m _ _ _ hm
  obtain ⟨fuel, hf⟩ := h1
  obtain ⟨A0, n0, c0, rfl⟩ := okWide_slice Try.underlying37 hok
  obtain ⟨A, n, c, e0, e1, _, e2, hel⟩ := open_slice (s := 3) (y := (d, p)) Try.underlying37 (by kernel_rfl) (by omega) (by simpa [Value.cells] using hf) lt0 h3
  obtain ⟨r, hr, hR⟩ := choose_list (R := fun i (x : Mv) => ∃ ad : Addr, A = some ad ∧ ad.block < W.heap.size ∧ W.cell? (ad.add (i * 3)) = some (.int .i64 x.1) ∧ W.cell? (ad.add (i * 3 + 1)) = some (.int .i64 x.2.1) ∧ W.cell? (ad.add (i * 3 + 2)) = some (.slice x.2.2.2.1 x.2.2.1.length x.2.2.2.2) ∧
    RdB W W.heap.size x.2.2.2.1 x.2.2.1 ∧ x.2.2.1.length ≤ x.2.2.2.2 ∧ x.2.2.2.2 ≤ 140737488351232) n (fun i hi => by
    obtain ⟨ad, cs, z, m, g1, g2, g3, g4, g5, g6⟩ := hel i hi
    obtain ⟨kd, j, B, b, cb, rfl, q3, q4, q5⟩ := trod_mv (d := z.1) (p := z.2) g4 g5 g6
    exact ⟨(kd, j, b, B, cb), ad, g1, g2, g3 0 _ rfl, g3 1 _ rfl, g3 2 _ rfl, q5, q3, q4⟩)
  exact ⟨A, c, r, by rw [e0, hr], by omega, e2, hR⟩
end
end Go.Proofs.Ytmmkjphkfhgcpaa
