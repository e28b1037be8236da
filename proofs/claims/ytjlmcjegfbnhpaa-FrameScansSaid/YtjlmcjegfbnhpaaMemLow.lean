/- What lies below a bound is kept. No function in sight. -/
import Derived.Test.YtjlmcjegfbnhpaaKnown
namespace Go.Proofs.Ytjlmcjegfbnhpaa
open Go.RowKit
theorem Mem.low {W w w' : World} {L : Known} {B : Nat} (h : Mem W w L) (hb : Below B w w') (hL : ∀ p ∈ L, p.1 < B) (hW : W.heap.size ≤ B) : Mem W w' L :=
  ⟨h.below.trans (hb.mono hW), fun p hp => (h.blk p hp).below hb (hL p hp), h.ge, h.apart⟩
theorem Mem.drop1 {W w : World} {p q : Nat × TypeId × Array Value} {L : Known} (h : Mem W w (p :: q :: L)) : Mem W w (p :: L) :=
  ⟨h.below, fun r hr => h.blk r (by rcases List.mem_cons.1 hr with rfl | hr <;> simp [*]), fun r hr => h.ge r (by rcases List.mem_cons.1 hr with rfl | hr <;> simp [*]), by
    have ha := h.apart
    simp only [List.map_cons, List.nodup_cons, List.mem_cons, not_or] at ha ⊢
    exact ⟨ha.1.2, ha.2.2⟩⟩
end Go.Proofs.Ytjlmcjegfbnhpaa
