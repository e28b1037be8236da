/- New bytes, and are two rows of bytes the same (for seats without short numbers). -/
import Derived.Test.YtjlmcjegfbnhpaaMem
import Derived.Test.YtjlmcjegfbnhpaaNumMath
namespace Go.Proofs.Ytjlmcjegfbnhpaa
set_option linter.unusedVariables false
open Go.RowKit

theorem u8info : (Try.prog.info? 5).map (fun i => (i.zero, i.size, i.bytes)) = some (some (.int .u8 0), 1, 1) := by kernel_rfl

/-- the call answers new bytes: l -/
def FreshB (w : World) (l : List UInt8) (e : Ending) (w' : World) : Prop :=
  ∃ A c, e = .returned (.slice A l.length c) ∧ w'.ownsRow w.heap.size 5 1 (.slice A l.length c) l.length (l.map Bv) ∧ Below w.heap.size w w' ∧ l.length ≤ c

theorem Num.low8 {m : Nat} : ((m : Int) % 256) = ((UInt8.ofNat m).toNat : Int) := by
  rw [UInt8.toNat_ofNat']
  omega

set_option maxHeartbeats 1000000 in
theorem same_any (a b : List UInt8) (A B : Option Addr) (ca cb Ba Bb : Nat) (w : World) (ha : RdB w Ba A a) (hb : RdB w Bb B b) :
    Calls Try.prog 13 #[.slice A a.length ca, .slice B b.length cb] w fun e w' => e = .returned (.bool (a == b)) ∧ w = w' := by
  have ea := run_str (P := Try.prog) ca ha Try.underlying22 Try.underlying5 Try.underlying9
  have eb := run_str (P := Try.prog) cb hb Try.underlying22 Try.underlying5 Try.underlying9
  go_enter Try.func13, Try.ntmps13
  go_wp2_with fail
  go_ret
  exact ⟨rfl, rfl⟩
theorem same_n (a b : List UInt8) (A B : Option Addr) (na nb ca cb Ba Bb : Nat) (w : World) (ha : RdB w Ba A a) (hb : RdB w Bb B b) (hla : a.length = na) (hlb : b.length = nb) :
    Calls Try.prog 13 #[.slice A na ca, .slice B nb cb] w fun e w' => e = .returned (.bool (a == b)) ∧ w = w' := by
  subst hla
  subst hlb
  exact same_any a b A B ca cb Ba Bb w ha hb
end Go.Proofs.Ytjlmcjegfbnhpaa
