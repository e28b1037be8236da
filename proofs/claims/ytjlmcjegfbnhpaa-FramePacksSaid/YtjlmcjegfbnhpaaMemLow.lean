/- What lies below a bound is kept. No function in sight. -/
import Derived.Test.YtjlmcjegfbnhpaaKnown
namespace Go.Proofs.Ytjlmcjegfbnhpaa
open Go.RowKit
theorem Mem.low {W w w' : World} {L : Known} {B : Nat} (h : Mem W w L) (hb : Below B w w') (hL : ∀ p ∈ L, p.1 < B) (hW : W.heap.size ≤ B) : Mem W w' L :=
  ⟨h.below.trans (hb.mono hW), fun p hp => (h.blk p hp).below hb (hL p hp), h.ge, h.apart⟩
end Go.Proofs.Ytjlmcjegfbnhpaa
