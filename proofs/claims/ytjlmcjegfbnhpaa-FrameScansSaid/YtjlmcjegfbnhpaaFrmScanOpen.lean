/- Frames in a row that came in. -/
import Derived.Test.YtjlmcjegfbnhpaaFrmScan
namespace Go.Proofs.Ytjlmcjegfbnhpaa
open Go.ChangeShapes Go.WideShapes Go.ChangeAt Go.RowKit
set_option linter.unusedVariables false
section
variable {H : Type} {enc : TypeId × Value → H} {W : World} {k : DataW H → Prop}
theorem Came.frames {x : Value} (h : Came enc Try.prog W k 40 x) :
    ∃ (A : Option Addr) (c : Nat) (r : List Fr), x = .slice A r.length c ∧ r.length ≤ c ∧ c ≤ 9223372036854775807 ∧ InFr W W.heap.size A r := by
  obtain ⟨d, p, base, h1, hok, h3, _⟩ := h
  have lt0 : ∀ x ∈ p, x.block < W.heap.size := by obtain ⟨m, hm⟩ := h1; exact DataW.trod_lt m _ _ _ hm
  obtain ⟨fuel, hf⟩ := h1
  obtain ⟨A0, n0, c0, rfl⟩ := okWide_slice Try.underlying40 hok
  obtain ⟨A, n, c, e0, e1, _, e2, hel⟩ := open_slice (s := 5) (y := (d, p)) Try.underlying40 (by kernel_rfl) (by omega) (by simpa [Value.cells] using hf) lt0 h3
  obtain ⟨r, hr, hR⟩ := choose_list (R := fun i (x : Fr) => ∃ ad : Addr, A = some ad ∧ ad.block < W.heap.size ∧ W.cell? (ad.add (i * 5)) = some (.int .i64 x.1.ver) ∧ W.cell? (ad.add (i * 5 + 1)) = some (.int .i64 x.1.epoch) ∧ W.cell? (ad.add (i * 5 + 2)) = some (.int .i64 x.1.seq) ∧
    W.cell? (ad.add (i * 5 + 3)) = some (.int .i64 x.1.ack) ∧ W.cell? (ad.add (i * 5 + 4)) = some (.slice x.2.1 x.1.body.length x.2.2) ∧ RdB W W.heap.size x.2.1 x.1.body ∧ x.1.body.length ≤ x.2.2 ∧ x.2.2 ≤ 140737488351232) n (fun i hi => by
    obtain ⟨ad, cs, z, m, g1, g2, g3, g4, g5, g6⟩ := hel i hi
    obtain ⟨f, B, cb, rfl, _, q1, q2, q3⟩ := trod_frame (d := z.1) (p := z.2) g4 g5 g6
    exact ⟨(f, B, cb), ad, g1, g2, g3 0 _ rfl, g3 1 _ rfl, g3 2 _ rfl, g3 3 _ rfl, g3 4 _ rfl, q3, q1, q2⟩)
  exact ⟨A, c, r, by rw [e0, hr], by omega, e2, hR⟩
end
end Go.Proofs.Ytjlmcjegfbnhpaa
