/- One move between two ends of a link. -/
import Derived.Test.YtmmkjphkfhgcpaaLinkTwoDoA
import Derived.Test.YtmmkjphkfhgcpaaLinkTwoDoB
import Derived.Test.YtmmkjphkfhgcpaaLinkTwoDoC
import Derived.Test.YtmmkjphkfhgcpaaLinkTwoDoD
import Derived.Test.YtmmkjphkfhgcpaaLinkTwoDoE
namespace Go.Proofs.Ytmmkjphkfhgcpaa
set_option linter.unusedVariables false
open Go.RowKit

theorem do_any (w0 w : World) (pt pa pb : Nat) (sa sb : LS) (t : TR) (ep : Int) (K : Nat) (kd i : Int) (Ab : Option Addr) (c : Nat) (b : List UInt8) (h : TwoSt w0 w pt pa pb sa sb t) (hi : TInv ep sa sb t K) (hK : K ≤ 3000) (hrl : t.row.length ≤ 100000) (hb : b.length ≤ 100) (hrd : RdB w w0.heap.size Ab b) :
    Calls Try.prog 16 #[.pointer (some ⟨pt, 0, none⟩), .agg #[.int .i64 kd, .int .i64 i, .slice Ab b.length c]] w (DoneT w0 pt pa pb ep (K + 1) (t.row.length + 16)) := by
  by_cases k0 : kd = 0
  · rw [k0]; exact do_send w0 w pt pa pb sa sb t ep K i Ab c b h hi hK hrl hb hrd
  by_cases k1 : kd = 1
  · rw [k1]; exact do_out w0 w pt pa pb sa sb t ep K i Ab c b h hi hK hrl hb hrd
  by_cases k2 : kd = 2
  · rw [k2]; exact do_note w0 w pt pa pb sa sb t ep K i Ab c b h hi hK hrl hb hrd
  by_cases k3 : kd = 3
  · rw [k3]; exact do_comes w0 w pt pa pb sa sb t ep K i Ab c b h hi hK hrl hb hrd
  by_cases k4 : kd = 4
  · rw [k4]; exact do_stays w0 w pt pa pb sa sb t ep K i Ab c b h hi hK hrl hb hrd
  by_cases k5 : kd = 5
  · rw [k5]; exact do_lost w0 w pt pa pb sa sb t ep K i Ab c b h hi hK hrl hb hrd
  exact do_else w0 w pt pa pb sa sb t ep K kd i Ab c b k0 k1 k2 k3 k4 k5 h hi hK hrl hb hrd
end Go.Proofs.Ytmmkjphkfhgcpaa
