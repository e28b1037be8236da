/- The document's Right; the wake of the net's statements. -/
import Derived.Test.YtbclfiollfagmaaNetSpoil
import Derived.Lib.SlBytesConst
namespace Go.Proofs.Ytbclfiollfagmaa
set_option linter.unusedVariables false
open Go.RowKit

set_option maxHeartbeats 1000000 in
theorem rright_yes (a b : Nat) (w : World) (ha : a ≤ 20) (hb : b ≤ 20) (hab : a ≠ b) : Calls Try.prog 9 #[.int .i64 (a : Int), .int .i64 (b : Int)] w fun e w' => e = .returned (.bool true) ∧ w = w' := by
  have g1 : decide ((0 : Int) ≤ (a : Int)) = true := decide_eq_true (by omega)
  have g2 : decide ((a : Int) ≤ 20) = true := decide_eq_true (by omega)
  have g3 : decide ((0 : Int) ≤ (b : Int)) = true := decide_eq_true (by omega)
  have g4 : decide ((b : Int) ≤ 20) = true := decide_eq_true (by omega)
  have g5 : ((a : Int) == (b : Int)) = false := beq_eq_false_iff_ne.2 (by omega)
  have g6 : ((a : Int) != (b : Int)) = true := by simp; omega
  clear ha hb hab
  go_enter Try.func9, Try.ntmps9
  go_wp2_with fail
  go_ret
  exact ⟨rfl, rfl⟩
set_option maxHeartbeats 2000000 in
theorem rright_no (f t : Int) (w : World) (h : ¬ Rt f t) : Calls Try.prog 9 #[.int .i64 f, .int .i64 t] w fun e w' => e = .returned (.bool false) ∧ w = w' := by
  unfold Rt at h
  by_cases c1 : 0 ≤ f
  · have g1 : decide ((0 : Int) ≤ f) = true := decide_eq_true c1
    by_cases c2 : f ≤ 20
    · have g2 : decide (f ≤ 20) = true := decide_eq_true c2
      by_cases c3 : 0 ≤ t
      · have g3 : decide ((0 : Int) ≤ t) = true := decide_eq_true c3
        by_cases c4 : t ≤ 20
        · have g4 : decide (t ≤ 20) = true := decide_eq_true c4
          have g5 : (f == t) = true := beq_iff_eq.2 (by omega)
          have g6 : (f != t) = false := by rw [beq_iff_eq.1 g5]; simp
          clear h c1 c2 c3 c4
          go_enter Try.func9, Try.ntmps9
          go_wp2_with fail
          go_ret
          exact ⟨rfl, rfl⟩
        · have g4 : decide (t ≤ 20) = false := decide_eq_false c4
          clear h
          go_enter Try.func9, Try.ntmps9
          go_wp2_with fail
          go_ret
          exact ⟨rfl, rfl⟩
      · have g3 : decide ((0 : Int) ≤ t) = false := decide_eq_false c3
        clear h
        go_enter Try.func9, Try.ntmps9
        go_wp2_with fail
        go_ret
        exact ⟨rfl, rfl⟩
    · have g2 : decide (f ≤ 20) = false := decide_eq_false c2
      clear h
      go_enter Try.func9, Try.ntmps9
      go_wp2_with fail
      go_ret
      exact ⟨rfl, rfl⟩
  · have g1 : decide ((0 : Int) ≤ f) = false := decide_eq_false c1
    clear h
    go_enter Try.func9, Try.ntmps9
    go_wp2_with fail
    go_ret
    exact ⟨rfl, rfl⟩


set_option maxHeartbeats 2000000 in
set_option maxRecDepth 20000 in
theorem awake_any (w : World) : Calls Try.prog 10 #[] w fun e w' => e = .returned (.bool true) ∧ Below w.heap.size w w' := by
  have HN := hide (new_net w)
  have hcv := fun (u : World) => Go.Lib.run_convert_bytes_const (P := Try.prog) u 31 5 #[Value.int .u8 120] 1 1 Try.underlying31 Try.underlying5
  go_enter Try.func10, Try.ntmps10
  go_wp2_with (first
    | (go_at_call 8; refine (unhide HN).mono ?_; rintro _ w1 ⟨rfl, hn1, hb1⟩
       have HN1 := hide (hn1.new ((Below.refl _ _).alloc (Nat.le_refl _) (.cells #[Value.int .u8 120] 5 (1, 2)))); have HB1 := hide (hb1.alloc hb1.size (.cells #[Value.int .u8 120] 5 (1, 2))); clear hn1 hb1)
    | (go_at_call 11; refine (send_ok w.heap.size w.heap.size newNS 1 2 [120] (some ⟨w1.heap.size, 0, none⟩) 1 (w1.heap.size + 1) (w1.alloc (.cells #[Value.int .u8 120] 5 (1, 2))) (unhide HN1) (by omega) (by omega) (by omega) (by simp [newNS]) (RdV.b (RdV.one w1 (.int .u8 120) _ (1, 2))) (by simp) (by simp)).mono ?_; rintro _ w2 ⟨rfl, A4, c4, A2, c2, hst⟩
       have HST := hide hst; have HB2 := hide ((unhide HB1).trans (hst.below (unhide HN1) (unhide HB1).size)); clear hst)
    | (go_at_call 12; refine (len_yes w.heap.size w.heap.size _ 1 2 w2 (unhide HST).at_ (by omega) (by omega) (by omega)).mono ?_; rintro _ w3 ⟨rfl, rfl⟩
       rw [NS.put_same]))
  go_ret
  exact ⟨rfl, unhide HB2⟩
end Go.Proofs.Ytbclfiollfagmaa
