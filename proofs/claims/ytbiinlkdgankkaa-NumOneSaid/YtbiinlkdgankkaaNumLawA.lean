/- The walks of NumUvars and NumOne. -/
import Derived.Test.YtbiinlkdgankkaaNumWrite
import Derived.Test.YtbiinlkdgankkaaNumText
import Derived.Test.YtbiinlkdgankkaaFrame
import Derived.Deep.RegionHeld3
namespace Go.Proofs.Ytbiinlkdgankkaa
set_option linter.unusedVariables false
open Go.RowKit

set_option maxHeartbeats 1000000 in
theorem numUvars_walk (n : BitVec 64) (b : List UInt8) (B : Option Addr) (cb : Nat) (w : World) (hb : RdB w w.heap.size B b) (hl : b.length ≤ cb) (hc : cb ≤ 140737488351232) :
    Calls Try.prog 3 #[.int .u64 (n.toNat : Int), .slice B b.length cb] w fun e w' => e = .returned (.bool true) ∧ Below w.heap.size w w' := by
  have HN := hide n.isLt
  have H1 := hide (takeUvar_n b B _ cb _ w hb rfl (by omega))
  have H2 := hide (refTakeUvar_n b B _ cb _ w hb rfl (by omega))
  generalize Num.take b = r at H1 H2
  go_enter Try.func3, Try.ntmps3
  go_wp2_with fail
  refine (unhide H1).mono ?_
  rintro e w1 ⟨rfl, rfl⟩
  go_wp2_with fail
  refine (unhide H2).mono ?_
  rintro e w1 ⟨rfl, rfl⟩
  go_wp2_with fail
  refine (awake_any _).mono ?_
  rintro e w1 ⟨rfl, hb1⟩
  have HB1 := hide hb1
  have HU1 := hide (uvar_any n.toNat w1 (by have := unhide HN; omega))
  clear hb1 hb
  go_wp2_with fail
  refine (unhide HU1).mono ?_
  rintro e w2 ⟨A2, c2, rfl, hown2, hbel2, hcc2⟩
  have HR2 := hide (RdB.of_own hown2)
  have HB2 := hide hbel2
  have HU2 := hide (refUvar_any n.toNat n.toNat w2 (Nat.le_refl _) (by have := unhide HN; omega))
  clear hown2 hbel2 hcc2 HU1
  go_wp2_with fail
  refine (unhide HU2).mono ?_
  rintro e w3 ⟨A3, c3, rfl, hown3, hbel3, hcc3⟩
  have HS := hide (same_n _ _ _ _ _ _ c2 c3 _ _ w3 ((unhide HR2).below hbel3) (RdB.of_own hown3) rfl rfl)
  have HB := hide ((unhide HB1).trans ((unhide HB2).mono (unhide HB1).size) |>.trans (hbel3.mono (Nat.le_trans (unhide HB1).size (unhide HB2).size)))
  clear hown3 hbel3 hcc3 HU2 HR2
  go_wp2_with fail
  refine (unhide HS).mono ?_
  rintro e w4 ⟨rfl, rfl⟩
  go_wp2_with fail
  go_ret
  exact ⟨ret_eq (by simp), unhide HB⟩

set_option maxHeartbeats 1000000 in
theorem numOne_err (b : List UInt8) (B : Option Addr) (cb : Nat) (w : World) (hb : RdB w w.heap.size B b) (hl : b.length ≤ cb) (hc : cb ≤ 140737488351232) (x : Int) (hx : Num.take b = (0, 0, x)) (h3 : x = 3 ∨ x = 2) :
    Calls Try.prog 4 #[.slice B b.length cb] w fun e w' => e = .returned (.bool true) ∧ Below w.heap.size w w' := by
  have H1 := hide (takeUvar_n b B _ cb _ w hb rfl (by omega))
  rw [hx] at H1
  clear hx
  rcases h3 with rfl | rfl
  all_goals
    go_enter Try.func4, Try.ntmps4
    go_wp2_with fail
    refine (unhide H1).mono ?_
    rintro e w1 ⟨rfl, rfl⟩
    go_wp2_with fail
    refine (awake_any _).mono ?_
    rintro e w1 ⟨rfl, hb1⟩
    go_wp2_with fail
    go_ret
    exact ⟨rfl, hb1⟩

set_option maxHeartbeats 1000000 in
theorem numOne_ok (b : List UInt8) (B : Option Addr) (cb : Nat) (w : World) (hb : RdB w w.heap.size B b) (hl : b.length ≤ cb) (hc : cb ≤ 140737488351232) (n k : Nat) (hx : Num.take b = (n, k, 0)) :
    Calls Try.prog 4 #[.slice B b.length cb] w fun e w' => e = .returned (.bool true) ∧ Below w.heap.size w w' := by
  have H1 := hide (takeUvar_n b B _ cb _ w hb rfl (by omega))
  have hto := Num.take_only hx
  rw [hx] at H1
  clear hx
  obtain ⟨t1, t2, t3, t4⟩ := hto
  have T1 := hide t1
  have T2 := hide t2
  have T4 := hide t4
  have t5 : 1 ≤ k := by have := Num.uv_ne n; omega
  clear t1 t2 t4
  go_enter Try.func4, Try.ntmps4
  go_wp2_with fail
  refine (unhide H1).mono ?_
  rintro e w1 ⟨rfl, rfl⟩
  clear H1
  have s1 : (0 : Int) ≤ (k : Int) := by omega
  have s2 : (k : Int) ≤ (cb : Int) := by omega
  have g1 : decide (1 ≤ (k : Int)) = true := decide_eq_true (by omega)
  have g2 : decide ((k : Int) ≤ (b.length : Int)) = true := decide_eq_true (by omega)
  go_wp2_with fail
  go_region_held3 (fun _ => True) (trivial) (first
    | (go_at_call 13; refine (awake_any _).mono ?_; rintro e w1 ⟨rfl, hb1⟩; have HB1 := hide hb1; clear hb1)
    | (go_at_call 15; refine (uvar_any n w1 (unhide T4)).mono ?_; rintro e w2 ⟨A2, c2, rfl, hown2, hbel2, hcc2⟩; have HR2 := hide (RdB.of_own hown2); have HB2 := hide hbel2; clear hown2 hbel2 hcc2)
    | (go_at_call 14; refine (same_n (Num.uv n) (b.take k) A2 B _ _ c2 cb _ _ w2 (unhide HR2) ((((hb.drew.below (unhide HB1)).below ((unhide HB2).mono (unhide HB1).size))).take k) rfl (by simp; omega)).mono ?_; rintro e w4 ⟨rfl, rfl⟩))
  all_goals
    go_wp2_with fail
    go_ret
    refine ⟨ret_eq (by rw [unhide T1]; simp), ?_⟩
    exact ((Below.refl _ _).drew.trans (unhide HB1)).trans ((unhide HB2).mono (unhide HB1).size)

theorem numOne_walk (b : List UInt8) (B : Option Addr) (cb : Nat) (w : World) (hb : RdB w w.heap.size B b) (hl : b.length ≤ cb) (hc : cb ≤ 140737488351232) :
    Calls Try.prog 4 #[.slice B b.length cb] w fun e w' => e = .returned (.bool true) ∧ Below w.heap.size w w' := by
  rcases Num.tk_cases b 0 0 with ⟨n, k, h⟩ | h | h
  · exact numOne_ok b B cb w hb hl hc n k h
  · exact numOne_err b B cb w hb hl hc 3 h (.inl rfl)
  · exact numOne_err b B cb w hb hl hc 2 h (.inr rfl)
end Go.Proofs.Ytbiinlkdgankkaa
