/- Frames that come in, at a seat of the link's. -/
import Derived.Test.YtmmkjphkfhgcpaaOpen
import Derived.Test.YtmmkjphkfhgcpaaMem
namespace Go.Proofs.Ytmmkjphkfhgcpaa
open Go.ChangeShapes Go.WideShapes Go.ChangeAt Go.RowKit
set_option linter.unusedVariables false
theorem Lnk.cellsAt {w : World} {g : Nat} {t : TypeId} {v e s a : Int} {b : Value} (h : Blk w g t #[.int .i64 v, .int .i64 e, .int .i64 s, .int .i64 a, b]) :
    w.cell? ⟨g, 0, none⟩ = some (.int .i64 v) ∧ w.cell? ⟨g, 1, none⟩ = some (.int .i64 e) ∧ w.cell? ⟨g, 2, none⟩ = some (.int .i64 s) ∧ w.cell? ⟨g, 3, none⟩ = some (.int .i64 a) ∧ w.cell? ⟨g, 4, none⟩ = some b :=
  ⟨h.cell 0, h.cell 1, h.cell 2, h.cell 3, h.cell 4⟩
section
variable {H : Type} {enc : TypeId × Value → H} {W : World} {k : DataW H → Prop}
theorem trod_frame {fuel : Nat} {cs : List Value} {d : DataW H} {p : List MemPlace} (hf : DataW.trod enc Try.prog W 0 (fun _ => true) true fuel 31 cs = some (d, p))
    (hlt : ∀ x ∈ p, x.block < W.heap.size) (h3 : ∀ n ∈ d.weights Try.prog 31, n ≤ reachBytes) :
    ∃ (v e s a : Int) (A : Option Addr) (b : List UInt8) (c : Nat), cs = [.int .i64 v, .int .i64 e, .int .i64 s, .int .i64 a, .slice A b.length c] ∧ (-9223372036854775808 ≤ v ∧ v ≤ 9223372036854775807) ∧ (-9223372036854775808 ≤ e ∧ e ≤ 9223372036854775807) ∧ (-9223372036854775808 ≤ s ∧ s ≤ 9223372036854775807) ∧ (-9223372036854775808 ≤ a ∧ a ≤ 9223372036854775807) ∧ b.length ≤ c ∧ c ≤ 140737488351232 ∧ RdB W W.heap.size A b := by
  obtain ⟨xs, n, _, hx, hl, hlen, hs⟩ := DataW.trod_struct Try.underlying31 hf
  have hl : cs.length = 5 := hl.trans (by kernel_rfl)
  match cs, hl, xs, hlen with
  | [c0, c1, c2, c3, c4], _, [y0, y1, y2, y3, y4], _ =>
    simp only [Prod.mk.injEq] at hx
    obtain ⟨rfl, rfl⟩ := hx
    have e0 : DataW.trod enc Try.prog W 0 (fun _ => true) true n 3 [c0] = some y0 := hs 0 _ rfl
    have e1 : DataW.trod enc Try.prog W 0 (fun _ => true) true n 3 [c1] = some y1 := hs 1 _ rfl
    have e2 : DataW.trod enc Try.prog W 0 (fun _ => true) true n 3 [c2] = some y2 := hs 2 _ rfl
    have e3 : DataW.trod enc Try.prog W 0 (fun _ => true) true n 3 [c3] = some y3 := hs 3 _ rfl
    have e4 : DataW.trod enc Try.prog W 0 (fun _ => true) true n 22 [c4] = some y4 := hs 4 _ rfl
    obtain ⟨v, rfl, hv⟩ := cell_i64 Try.underlying3 e0
    obtain ⟨e, rfl, he⟩ := cell_i64 Try.underlying3 e1
    obtain ⟨s, rfl, hse⟩ := cell_i64 Try.underlying3 e2
    obtain ⟨a, rfl, ha⟩ := cell_i64 Try.underlying3 e3
    obtain ⟨A, b, c, rfl, g1, g2, g3⟩ := cell_bytes Try.underlying22 Try.underlying5 (by kernel_rfl) (by kernel_rfl) e4 (fun x hx => hlt x (by simp [hx])) (fun m hm => h3 m (by
      simp [DataW.weights, Try.underlying31, DataW.weightsEach, hm]))
    exact ⟨v, e, s, a, A, b, c, rfl, hv, he, hse, ha, g1, g2, g3⟩
theorem Came.frame {x : Value} (h : Came enc Try.prog W k 31 x) :
    ∃ (v e s a : Int) (A : Option Addr) (b : List UInt8) (c : Nat), x = .agg #[.int .i64 v, .int .i64 e, .int .i64 s, .int .i64 a, .slice A b.length c] ∧ (-9223372036854775808 ≤ v ∧ v ≤ 9223372036854775807) ∧ (-9223372036854775808 ≤ e ∧ e ≤ 9223372036854775807) ∧ (-9223372036854775808 ≤ s ∧ s ≤ 9223372036854775807) ∧ (-9223372036854775808 ≤ a ∧ a ≤ 9223372036854775807) ∧ b.length ≤ c ∧ c ≤ 140737488351232 ∧ RdB W W.heap.size A b := by
  obtain ⟨d, p, base, h1, hok, h3, _⟩ := h
  have lt0 : ∀ x ∈ p, x.block < W.heap.size := by obtain ⟨m, hm⟩ := h1; exact DataW.trod_lt m _ _ _ hm
  obtain ⟨fuel, hf⟩ := h1
  obtain ⟨cs, rfl, hs⟩ := okWide_struct Try.underlying31 hok
  obtain ⟨v, e, s, a, A, b, c, e0, r⟩ := trod_frame hf lt0 h3
  refine ⟨v, e, s, a, A, b, c, ?_, r⟩
  have e0 : cs.toList = #[.int .i64 v, .int .i64 e, .int .i64 s, .int .i64 a, .slice A b.length c].toList := e0
  rw [Array.ext' e0]
end
end Go.Proofs.Ytmmkjphkfhgcpaa
