/- The walk of LinkNone. -/
import Derived.Test.YtmmkjphkfhgcpaaLinkAwake
import Derived.Test.YtmmkjphkfhgcpaaLinkFrame
namespace Go.Proofs.Ytmmkjphkfhgcpaa
set_option linter.unusedVariables false
open Go.RowKit
theorem zero_one : (#[Value.int .i64 0, .int .i64 0, .int .i64 0, .int .i64 0, .slice none 0 0] : Array Value).all (·.oneCell') = true := by simp [Value.oneCell']

set_option maxHeartbeats 1000000 in
theorem note_nil (b : Value) (w : World) :
    Calls Try.prog 17 #[.pointer none, b] w fun e w' => e = .returned (.agg #[.int .i64 0, .int .i64 0, .int .i64 0, .int .i64 0, .slice none 0 0]) ∧ Below w.heap.size w w' := by
  have HM0 := hide ((Mem.start w).new (t := 31) (cs := #[.int .i64 0, .int .i64 0, .int .i64 0, .int .i64 0, .slice none 0 0]) w.heap.size rfl)
  go_enter Try.func17, Try.ntmps17
  go_wp2_with (refine wpList_store_blk rfl 31 (.tmp 4) (.tmp 7) rfl (w.heap.size) _ (by rfl) (by rfl) 31 _ (unhide HM0).blk0 (by kernel_rfl) (by rfl) (zero_one) ?_; intro w1 hbS hgS; have HM1 := hide ((unhide HM0).grown0 hbS hgS); have HGw1 := hide hgS; clear hbS hgS)
  exact bodyPost_ret (results_cell_row rfl _ _ w.heap.size 31 _ (0, 0) _ rfl (unhide HM1).blk0 Try.underlying31 rfl (by kernel_rfl)) rfl ⟨rfl, (unhide HM1).below⟩

set_option maxHeartbeats 2000000 in
set_option maxRecDepth 20000 in
theorem linkNone_any (v e s a : Int) (A : Option Addr) (n c : Nat) (B : Option Addr) (k d : Nat) (w : World) :
    Calls Try.prog 9 #[.agg #[.int .i64 v, .int .i64 e, .int .i64 s, .int .i64 a, .slice A n c], .slice B k d] w fun e' w' => e' = .returned (.bool true) ∧ Below w.heap.size w w' := by
  have HM0 := hide ((Mem.start w).new (t := 31) (cs := #[.int .i64 v, .int .i64 e, .int .i64 s, .int .i64 a, .slice A n c]) w.heap.size rfl)
  have HA := hide awake_any
  go_enter Try.func9, Try.ntmps9
  go_wp2_with (first
    | (refine wpList_load_blk rfl 31 (.tmp 2) rfl (w.heap.size) rfl 31 _ _ ((unhide HM0).blk0) Try.underlying31 rfl (by kernel_rfl) ?_)
    | (go_at_call 14; refine (in_nil v e s a A n c _).mono ?_; rintro _ w1 ⟨rfl, hb1⟩; have HM1 := hide ((unhide HM0).called hb1); clear hb1)
    | (go_at_call 17; refine (note_nil _ _).mono ?_; rintro _ w2 ⟨rfl, hb2⟩; have HM2 := hide (((unhide HM1).called hb2).new (t := 31) (cs := #[.int .i64 0, .int .i64 0, .int .i64 0, .int .i64 0, .slice none 0 0]) w2.heap.size rfl); clear hb2)
    | (go_at_call 15; refine (unhide HA _).mono ?_; rintro _ w3 ⟨rfl, hb3⟩; have HM3 := hide ((unhide HM2).called hb3); have fc := Lnk.cellsAt (unhide HM3).blk0; clear hb3)
    | (go_at_call 11; refine (send_nil _ _).mono ?_; rintro _ w4 ⟨rfl, rfl⟩)
    | (go_at_call 12; refine (out_nil _).mono ?_; rintro _ w4 ⟨rfl, rfl⟩)
    | (go_at_call 19; refine (waiting_nil _).mono ?_; rintro _ w4 ⟨rfl, rfl⟩)
    | (go_at_call 22; refine (got_nil _).mono ?_; rintro _ w4 ⟨rfl, rfl⟩)
    | (go_at_call 26; refine (epoch_nil _).mono ?_; rintro _ w4 ⟨rfl, rfl⟩))
  go_ret
  exact ⟨rfl, (unhide HM3).below⟩
end Go.Proofs.Ytmmkjphkfhgcpaa
