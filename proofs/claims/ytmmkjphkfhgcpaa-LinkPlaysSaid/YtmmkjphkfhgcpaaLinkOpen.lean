/- Bodies and frames that came in, at a seat of the link's. -/
import Derived.Test.YtmmkjphkfhgcpaaLinkLawB
import Derived.Test.YtmmkjphkfhgcpaaOpenRow
import Derived.Test.YtmmkjphkfhgcpaaLinkFrame
namespace Go.Proofs.Ytmmkjphkfhgcpaa
open Go.ChangeShapes Go.WideShapes Go.ChangeAt Go.RowKit
set_option linter.unusedVariables false
section
variable {H : Type} {enc : TypeId × Value → H} {W : World} {k : DataW H → Prop}
theorem Came.bytesRows {x : Value} (h : Came enc Try.prog W k 32 x) :
    ∃ (A : Option Addr) (c : Nat) (r : Bodies), x = .slice A r.length c ∧ r.length ≤ c ∧ c ≤ 9223372036854775807 ∧ InRows W W.heap.size A r := by
  obtain ⟨d, p, base, h1, hok, h3, _⟩ := h
  have lt0 : ∀ x ∈ p, x.block < W.heap.size := by obtain ⟨m, hm⟩ := h1; exact DataW.trod_lt m _ _ _ hm
  obtain ⟨fuel, hf⟩ := h1
  obtain ⟨A0, n0, c0, rfl⟩ := okWide_slice Try.underlying32 hok
  obtain ⟨A, c, r, e0, e1, e2, e3⟩ := open_bytesRows (y := (d, p)) Try.underlying32 Try.underlying22 Try.underlying5 (by kernel_rfl) (by kernel_rfl) (by kernel_rfl) (by simpa [Value.cells] using hf) lt0 h3
  exact ⟨A, c, r, e0, e1, e2, e3⟩
theorem Came.frames {x : Value} (h : Came enc Try.prog W k 27 x) :
    ∃ (A : Option Addr) (c : Nat) (r : List Fr), x = .slice A r.length c ∧ r.length ≤ c ∧ c ≤ 9223372036854775807 ∧ InFrames W W.heap.size A r := by
  obtain ⟨d, p, base, h1, hok, h3, _⟩ := h
  have lt0 : ∀ x ∈ p, x.block < W.heap.size := by obtain ⟨m, hm⟩ := h1; exact DataW.trod_lt m _ _ _ hm
  obtain ⟨fuel, hf⟩ := h1
  obtain ⟨A0, n0, c0, rfl⟩ := okWide_slice Try.underlying27 hok
  obtain ⟨A, n, c, e0, e1, _, e2, hel⟩ := open_slice (s := 5) (y := (d, p)) Try.underlying27 (by kernel_rfl) (by omega) (by simpa [Value.cells] using hf) lt0 h3
  obtain ⟨r, hr, hR⟩ := choose_list (R := fun i (x : Fr) => ∃ ad : Addr, A = some ad ∧ ad.block < W.heap.size ∧ W.cell? (ad.add (i * 5)) = some (.int .i64 x.1) ∧ W.cell? (ad.add (i * 5 + 1)) = some (.int .i64 x.2.1) ∧ W.cell? (ad.add (i * 5 + 2)) = some (.int .i64 x.2.2.1) ∧
    W.cell? (ad.add (i * 5 + 3)) = some (.int .i64 x.2.2.2.1) ∧ W.cell? (ad.add (i * 5 + 4)) = some (.slice x.2.2.2.2.2.1 x.2.2.2.2.1.length x.2.2.2.2.2.2)) n (fun i hi => by
    obtain ⟨ad, cs, z, m, g1, g2, g3, g4, g5, g6⟩ := hel i hi
    obtain ⟨v, e, s, a, B, b, cb, rfl, _, _, _, _, _, _, _⟩ := trod_frame (d := z.1) (p := z.2) g4 g5 g6
    exact ⟨(v, e, s, a, b, B, cb), ad, g1, g2, g3 0 _ rfl, g3 1 _ rfl, g3 2 _ rfl, g3 3 _ rfl, g3 4 _ rfl⟩)
  exact ⟨A, c, r, by rw [e0, hr], by omega, e2, hR⟩
end
end Go.Proofs.Ytmmkjphkfhgcpaa
