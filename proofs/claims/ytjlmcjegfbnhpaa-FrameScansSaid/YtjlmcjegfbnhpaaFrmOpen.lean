/- Frames that come in. -/
import Derived.Test.YtjlmcjegfbnhpaaOpen
import Derived.Test.YtjlmcjegfbnhpaaFrmMath
namespace Go.Proofs.Ytjlmcjegfbnhpaa
open Go.ChangeShapes Go.WideShapes Go.ChangeAt Go.RowKit
set_option linter.unusedVariables false
/-- a frame as a value: its body lies at A -/
def Frm.val (f : Frm.F) (A : Option Addr) (c : Nat) : Value := .agg #[.int .i64 f.ver, .int .i64 f.epoch, .int .i64 f.seq, .int .i64 f.ack, .slice A f.body.length c]
section
variable {H : Type} {enc : TypeId × Value → H} {W : World} {k : DataW H → Prop}
theorem trod_frame {fuel : Nat} {cs : List Value} {d : DataW H} {p : List MemPlace} (hf : DataW.trod enc Try.prog W 0 (fun _ => true) true fuel 24 cs = some (d, p))
    (hlt : ∀ x ∈ p, x.block < W.heap.size) (h3 : ∀ n ∈ d.weights Try.prog 24, n ≤ reachBytes) :
    ∃ (f : Frm.F) (A : Option Addr) (c : Nat), cs = (Frm.val f A c).cells.toList ∧ Frm.Ok f ∧ f.body.length ≤ c ∧ c ≤ 140737488351232 ∧ RdB W W.heap.size A f.body := by
  obtain ⟨xs, n, _, hx, hl, hlen, hs⟩ := DataW.trod_struct Try.underlying24 hf
  have hl : cs.length = 5 := hl.trans (by kernel_rfl)
  match cs, hl, xs, hlen with
  | [c0, c1, c2, c3, c4], _, [y0, y1, y2, y3, y4], _ =>
    simp only [Prod.mk.injEq] at hx
    obtain ⟨rfl, rfl⟩ := hx
    have e0 : DataW.trod enc Try.prog W 0 (fun _ => true) true n 3 [c0] = some y0 := hs 0 _ rfl
    have e1 : DataW.trod enc Try.prog W 0 (fun _ => true) true n 3 [c1] = some y1 := hs 1 _ rfl
    have e2 : DataW.trod enc Try.prog W 0 (fun _ => true) true n 3 [c2] = some y2 := hs 2 _ rfl
    have e3 : DataW.trod enc Try.prog W 0 (fun _ => true) true n 3 [c3] = some y3 := hs 3 _ rfl
    have e4 : DataW.trod enc Try.prog W 0 (fun _ => true) true n 22 [c4] = some y4 := hs 4 _ rfl
    obtain ⟨v, rfl, hv⟩ := cell_i64 Try.underlying3 e0
    obtain ⟨e, rfl, he⟩ := cell_i64 Try.underlying3 e1
    obtain ⟨s, rfl, hse⟩ := cell_i64 Try.underlying3 e2
    obtain ⟨a, rfl, ha⟩ := cell_i64 Try.underlying3 e3
    obtain ⟨A, b, c, rfl, g1, g2, g3⟩ := cell_bytes Try.underlying22 Try.underlying5 (by kernel_rfl) (by kernel_rfl) e4 (fun x hx => hlt x (by simp [hx])) (fun m hm => h3 m (by
      simp [DataW.weights, Try.underlying24, DataW.weightsEach, hm]))
    exact ⟨⟨v, e, s, a, b⟩, A, c, rfl, ⟨hv, he, hse, ha⟩, g1, g2, g3⟩
theorem Came.frame {x : Value} (h : Came enc Try.prog W k 24 x) :
    ∃ (f : Frm.F) (A : Option Addr) (c : Nat), x = Frm.val f A c ∧ Frm.Ok f ∧ f.body.length ≤ c ∧ c ≤ 140737488351232 ∧ RdB W W.heap.size A f.body := by
  obtain ⟨d, p, base, h1, hok, h3, _⟩ := h
  have lt0 : ∀ x ∈ p, x.block < W.heap.size := by obtain ⟨m, hm⟩ := h1; exact DataW.trod_lt m _ _ _ hm
  obtain ⟨fuel, hf⟩ := h1
  obtain ⟨cs, rfl, hs⟩ := okWide_struct Try.underlying24 hok
  obtain ⟨f, A, c, e, r⟩ := trod_frame hf lt0 h3
  refine ⟨f, A, c, ?_, r⟩
  have e : cs.toList = (Frm.val f A c).cells.toList := e
  have e2 : cs = (Frm.val f A c).cells := Array.ext' e
  rw [e2]
  rfl
end
end Go.Proofs.Ytjlmcjegfbnhpaa
