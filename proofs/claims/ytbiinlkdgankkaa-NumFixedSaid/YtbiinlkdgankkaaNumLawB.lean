/- The walk of NumFixed. -/
import Derived.Test.YtbiinlkdgankkaaNumFix
import Derived.Test.YtbiinlkdgankkaaNumTakeFix
import Derived.Test.YtbiinlkdgankkaaFrame
namespace Go.Proofs.Ytbiinlkdgankkaa
set_option linter.unusedVariables false
open Go.RowKit

set_option maxHeartbeats 1000000 in
set_option maxRecDepth 20000 in
theorem numFixed_walk (n : BitVec 64) (width : Int) (b : List UInt8) (B : Option Addr) (cb : Nat) (w : World) (hb : RdB w w.heap.size B b) (hl : b.length ≤ cb) (hc : cb ≤ 140737488351232) (lo : -9223372036854775808 ≤ width) (hi8 : width ≤ 9223372036854775807) :
    Calls Try.prog 9 #[.int .u64 (n.toNat : Int), .int .i64 width, .slice B b.length cb] w fun e w' => e = .returned (.bool true) ∧ Below w.heap.size w w' := by
  have HN : Hid (n.toNat < 18446744073709551616) := n.isLt
  have H1 := hide (fixed_any n.toNat width w (unhide HN) lo hi8)
  have H2 := hide (fun w => refFixed_any n.toNat width w (unhide HN) lo hi8)
  have H3 := hide (fun w hb => takeFixed_any b B cb (World.heap w).size width w hb hl (by omega) lo hi8)
  have H4 := hide (fun w hb => refTakeFixed_any b B cb (World.heap w).size width w hb hl (by omega) lo hi8)
  clear lo hi8
  generalize Num.fixed n.toNat width = r at H1 H2
  generalize Num.takeFixed b width = q at H3 H4
  obtain ⟨l, er⟩ := r
  obtain ⟨m, er2⟩ := q
  go_enter Try.func9, Try.ntmps9
  go_wp2_with fail
  refine (unhide H1).mono ?_
  rintro e w1 ⟨A1, c1, rfl, hown1, hbel1, hcc1⟩
  have HR1 := hide (RdB.of_own hown1)
  have HB1 := hide hbel1
  have HS1 := hide hbel1.size
  have Hb1 := hide ((hb.below hbel1).more hbel1.size)
  clear hown1 hbel1 hcc1 hb
  go_wp2_with fail
  refine ((unhide H2) w1).mono ?_
  rintro e w2 ⟨A2, c2, rfl, hown2, hbel2, hcc2⟩
  have HR1 := hide (((unhide HR1).below hbel2).more hbel2.size)
  have HR2 := hide (RdB.of_own hown2)
  have HB2 := hide ((unhide HB1).trans (hbel2.mono (unhide HS1)))
  have HS2 := hide (Nat.le_trans (unhide HS1) hbel2.size)
  have Hb2 := hide (((unhide Hb1).below hbel2).more hbel2.size)
  clear hown2 hbel2 hcc2
  go_wp2_with fail
  refine ((unhide H3) w2 (unhide Hb2)).mono ?_
  rintro e w3 ⟨rfl, rfl⟩
  go_wp2_with fail
  refine ((unhide H4) w2 (unhide Hb2)).mono ?_
  rintro e w3 ⟨rfl, rfl⟩
  go_wp2_with fail
  refine (awake_any _).mono ?_
  rintro e w3 ⟨rfl, hb3⟩
  have HS := hide (same_n l l A1 A2 _ _ c1 c2 _ _ w3 ((unhide HR1).below hb3) ((unhide HR2).below hb3) rfl rfl)
  have HB := hide ((unhide HB2).trans (hb3.mono (unhide HS2)))
  clear hb3
  go_wp2_with fail
  refine (unhide HS).mono ?_
  rintro e w4 ⟨rfl, rfl⟩
  go_wp2_with fail
  go_ret
  exact ⟨ret_eq (by simp), unhide HB⟩
end Go.Proofs.Ytbiinlkdgankkaa
