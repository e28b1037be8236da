/- The walks of the four laws of the sum. -/
import Derived.Test.YtihllggpeglbnaaSumWalk
namespace Go.Proofs.Ytihllggpeglbnaa
set_option linter.unusedVariables false
open Go.RowKit

theorem sum9 : (Crc.more 0#32 [49, 50, 51, 52, 53, 54, 55, 56, 57]).toNat = 3421780262 := by decide +kernel

set_option maxHeartbeats 400000 in
theorem awake_any (w : World) :
    Calls Try.prog 7 #[] w fun e w' => e = .returned (.bool true) ∧ Below w.heap.size w w' := by
  have kc := fun (w : World) (C : Array Value) (n c : Nat) => Lib.run_convert_bytes_const (P := Try.prog) w 23 5 C n c Try.underlying23 Try.underlying5
  go_enter Try.func7, Try.ntmps7
  go_wp2_with (go_at_call 8; refine (of_any [49, 50, 51, 52, 53, 54, 55, 56, 57] _ _ _ _ (RdB.new _ _ _ _ _ rfl) (by decide)).mono ?_; rintro e w' ⟨rfl, rfl⟩)
  go_ret
  refine ⟨ret_eq (congrArg Value.bool ?_), (Below.refl _ _).alloc (Nat.le_refl _) _⟩
  rw [sum9]; rfl

set_option maxHeartbeats 400000 in
theorem sumValues_walk (s : BitVec 32) (l : List UInt8) (A : Option Addr) (c : Nat) (w : World) (hr : RdB w w.heap.size A l) (hl : l.length ≤ maxLen) :
    Calls Try.prog 3 #[.int .u32 (s.toNat : Int), .slice A l.length c] w fun e w' => e = .returned (.bool true) ∧ Below w.heap.size w w' := by
  have hs := s.isLt
  go_enter Try.func3, Try.ntmps3
  go_wp2_with fail
  refine (awake_any _).mono ?_
  rintro e w1 ⟨rfl, hb⟩
  have h1 := hide (hr.below hb)
  have HB := hide hb
  clear hr hb
  go_wp2_with fail
  refine (of_any l A c _ w1 (unhide h1) hl).mono ?_
  rintro e w2 ⟨rfl, rfl⟩
  go_wp2_with fail
  refine (ref_more_any 0#32 l A c _ w1 (unhide h1) hl).mono ?_
  rintro e w2 ⟨rfl, rfl⟩
  go_wp2_with fail
  refine (more_any s l A c _ w1 (unhide h1) hl).mono ?_
  rintro e w2 ⟨rfl, rfl⟩
  go_wp2_with fail
  refine (ref_more_any s l A c _ w1 (unhide h1) hl).mono ?_
  rintro e w2 ⟨rfl, rfl⟩
  go_wp2_with fail
  go_ret
  exact ⟨ret_eq (by simp), unhide HB⟩
end Go.Proofs.Ytihllggpeglbnaa
