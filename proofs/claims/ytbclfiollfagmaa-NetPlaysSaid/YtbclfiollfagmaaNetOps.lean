/- The small calls of a net: may there be such a way, a new net, how many, which error. -/
import Derived.Test.YtbclfiollfagmaaNetAt
namespace Go.Proofs.Ytbclfiollfagmaa
set_option linter.unusedVariables false
open Go.RowKit

/-- such a way may be -/
def Rt (f t : Int) : Prop := 0 ≤ f ∧ f ≤ 20 ∧ 0 ≤ t ∧ t ≤ 20 ∧ f ≠ t
instance (f t : Int) : Decidable (Rt f t) := by unfold Rt; infer_instance
theorem Rt.nat {f t : Int} (h : Rt f t) : ∃ a b : Nat, f = a ∧ t = b ∧ a ≤ 20 ∧ b ≤ 20 ∧ a ≠ b ∧ a * 21 + b < 441 := by
  obtain ⟨h1, h2, h3, h4, h5⟩ := h
  exact ⟨f.toNat, t.toNat, by omega, by omega, by omega, by omega, by omega, by omega⟩
set_option maxHeartbeats 1000000 in
theorem right_yes (a b : Nat) (w : World) (ha : a ≤ 20) (hb : b ≤ 20) (hab : a ≠ b) : Calls Try.prog 26 #[.int .i64 (a : Int), .int .i64 (b : Int)] w fun e w' => e = .returned (.bool true) ∧ w = w' := by
  have g1 : decide ((0 : Int) ≤ (a : Int)) = true := decide_eq_true (by omega)
  have g2 : decide ((a : Int) ≤ 20) = true := decide_eq_true (by omega)
  have g3 : decide ((0 : Int) ≤ (b : Int)) = true := decide_eq_true (by omega)
  have g4 : decide ((b : Int) ≤ 20) = true := decide_eq_true (by omega)
  have g5 : ((a : Int) == (b : Int)) = false := beq_eq_false_iff_ne.2 (by omega)
  have g6 : ((a : Int) != (b : Int)) = true := by simp; omega
  clear ha hb hab
  go_enter Try.func26, Try.ntmps26
  go_wp2_with fail
  go_ret
  exact ⟨rfl, rfl⟩
set_option maxHeartbeats 2000000 in
theorem right_no (f t : Int) (w : World) (h : ¬ Rt f t) : Calls Try.prog 26 #[.int .i64 f, .int .i64 t] w fun e w' => e = .returned (.bool false) ∧ w = w' := by
  unfold Rt at h
  by_cases c1 : 0 ≤ f
  · have g1 : decide ((0 : Int) ≤ f) = true := decide_eq_true c1
    by_cases c2 : f ≤ 20
    · have g2 : decide (f ≤ 20) = true := decide_eq_true c2
      by_cases c3 : 0 ≤ t
      · have g3 : decide ((0 : Int) ≤ t) = true := decide_eq_true c3
        by_cases c4 : t ≤ 20
        · have g4 : decide (t ≤ 20) = true := decide_eq_true c4
          have g5 : (f == t) = true := beq_iff_eq.2 (by omega)
          have g6 : (f != t) = false := by rw [beq_iff_eq.1 g5]; simp
          clear h c1 c2 c3 c4
          go_enter Try.func26, Try.ntmps26
          go_wp2_with fail
          go_ret
          exact ⟨rfl, rfl⟩
        · have g4 : decide (t ≤ 20) = false := decide_eq_false c4
          clear h
          go_enter Try.func26, Try.ntmps26
          go_wp2_with fail
          go_ret
          exact ⟨rfl, rfl⟩
      · have g3 : decide ((0 : Int) ≤ t) = false := decide_eq_false c3
        clear h
        go_enter Try.func26, Try.ntmps26
        go_wp2_with fail
        go_ret
        exact ⟨rfl, rfl⟩
    · have g2 : decide (f ≤ 20) = false := decide_eq_false c2
      clear h
      go_enter Try.func26, Try.ntmps26
      go_wp2_with fail
      go_ret
      exact ⟨rfl, rfl⟩
  · have g1 : decide ((0 : Int) ≤ f) = false := decide_eq_false c1
    clear h
    go_enter Try.func26, Try.ntmps26
    go_wp2_with fail
    go_ret
    exact ⟨rfl, rfl⟩

def newNS : NS := ⟨fun _ => ⟨none, 0, []⟩, 0⟩
set_option maxHeartbeats 4000000 in
set_option maxRecDepth 20000 in
theorem new_net (w : World) : Calls Try.prog 8 #[] w fun e w' => e = .returned (.pointer (some ⟨w.heap.size, 0, none⟩)) ∧ NetAt w' w.heap.size w.heap.size newNS ∧ Below w.heap.size w w' := by
  have hbl : Hid (∀ C : Array Value, C = netCells newNS → NetAt (w.alloc (.cells C 63)) w.heap.size w.heap.size newNS ∧ Below w.heap.size w (w.alloc (.cells C 63))) := hide (fun C hC => by
    subst hC
    exact ⟨⟨Blk.new w _ _, fun i hi => own_nil _ _ _ _, fun i k x hi hx => by simp [newNS] at hx, fun i j g hi hj h1 => by simp [newNS, hdr, Value.ownBlock] at h1, fun i k x j l y g hi hj hx => by simp [newNS] at hx, Nat.le_refl _, fun i hi => by simp [newNS], fun i k x hi hx => by simp [newNS] at hx⟩, (Below.refl _ _).alloc (Nat.le_refl _) _⟩)
  have hz : ∀ u : World, (zeroValue 63).run Try.prog u = .ok (.agg (netCells newNS)) u := fun _ => by kernel_rfl
  go_enter Try.func8, Try.ntmps8
  go_wp2_with fail
  go_ret
  exact ⟨rfl, unhide hbl _ rfl⟩
theorem lost_any (B p : Nat) (s : NS) (w : World) (h : NetAt w B p s) : Calls Try.prog 13 #[.pointer (some ⟨p, 0, none⟩)] w fun e w' => e = .returned (.int .i64 s.lost) ∧ w = w' := by
  have fc := h.cellLost
  go_enter Try.func13, Try.ntmps13
  go_wp2_with fail
  go_ret
  exact ⟨rfl, rfl⟩
theorem lost_nil (w : World) : Calls Try.prog 13 #[.pointer none] w fun e w' => e = .returned (.int .i64 0) ∧ w = w' := by
  go_enter Try.func13, Try.ntmps13
  go_wp2_with fail
  go_ret
  exact ⟨rfl, rfl⟩
theorem len_yes (B p : Nat) (s : NS) (a b : Nat) (w : World) (h : NetAt w B p s) (ha : a ≤ 20) (hb : b ≤ 20) (hab : a ≠ b) : Calls Try.prog 12 #[.pointer (some ⟨p, 0, none⟩), .int .i64 (a : Int), .int .i64 (b : Int)] w fun e w' => e = .returned (.int .i64 ((s.ways (a * 21 + b)).ps.length : Int)) ∧ w = w' := by
  have fc : w.cell? ⟨p, a * 21 + b, none⟩ = some (.slice (s.ways (a * 21 + b)).A (s.ways (a * 21 + b)).ps.length (s.ways (a * 21 + b)).c) := h.cell (by omega)
  have HR := hide (fun u => right_yes a b u ha hb hab)
  clear hab
  go_enter Try.func12, Try.ntmps12
  go_wp2_with (go_at_call 26; refine (unhide HR _).mono ?_; rintro _ w2 ⟨rfl, rfl⟩)
  go_ret
  exact ⟨rfl, rfl⟩
theorem len_no (p : Nat) (f t : Int) (w : World) (h : ¬ Rt f t) : Calls Try.prog 12 #[.pointer (some ⟨p, 0, none⟩), .int .i64 f, .int .i64 t] w fun e w' => e = .returned (.int .i64 0) ∧ w = w' := by
  have HR := hide (fun u => right_no f t u h)
  clear h
  go_enter Try.func12, Try.ntmps12
  go_wp2_with (go_at_call 26; refine (unhide HR _).mono ?_; rintro _ w2 ⟨rfl, rfl⟩)
  go_ret
  exact ⟨rfl, rfl⟩
theorem len_nil (f t : Int) (w : World) : Calls Try.prog 12 #[.pointer none, .int .i64 f, .int .i64 t] w fun e w' => e = .returned (.int .i64 0) ∧ w = w' := by
  go_enter Try.func12, Try.ntmps12
  go_wp2_with fail
  go_ret
  exact ⟨rfl, rfl⟩
/-- which error: none -/
theorem at_yes (B p : Nat) (s : NS) (a b i : Nat) (w : World) (h : NetAt w B p s) (ha : a ≤ 20) (hb : b ≤ 20) (hab : a ≠ b) (hi : i < (s.ways (a * 21 + b)).ps.length) : Calls Try.prog 27 #[.pointer (some ⟨p, 0, none⟩), .int .i64 (a : Int), .int .i64 (b : Int), .int .i64 (i : Int)] w fun e w' => e = .returned (.int .i64 0) ∧ w = w' := by
  have fc : w.cell? ⟨p, a * 21 + b, none⟩ = some (.slice (s.ways (a * 21 + b)).A (s.ways (a * 21 + b)).ps.length (s.ways (a * 21 + b)).c) := h.cell (by omega)
  have HR := hide (fun u => right_yes a b u ha hb hab)
  have g1 : decide ((i : Int) < 0) = false := decide_eq_false (by omega)
  have g2 : decide (((s.ways (a * 21 + b)).ps.length : Int) ≤ (i : Int)) = false := decide_eq_false (by omega)
  have g3 : decide ((s.ways (a * 21 + b)).ps.length ≤ i) = false := decide_eq_false (by omega)
  clear hab
  go_enter Try.func27, Try.ntmps27
  go_wp2_with (go_at_call 26; refine (unhide HR _).mono ?_; rintro _ w2 ⟨rfl, rfl⟩)
  go_ret
  exact ⟨rfl, rfl⟩
/-- which error: there is no such packet -/
theorem at_none (B p : Nat) (s : NS) (a b : Nat) (i : Int) (w : World) (h : NetAt w B p s) (ha : a ≤ 20) (hb : b ≤ 20) (hab : a ≠ b) (hi : i < 0 ∨ ((s.ways (a * 21 + b)).ps.length : Int) ≤ i) : Calls Try.prog 27 #[.pointer (some ⟨p, 0, none⟩), .int .i64 (a : Int), .int .i64 (b : Int), .int .i64 i] w fun e w' => e = .returned (.int .i64 7) ∧ w = w' := by
  have fc : w.cell? ⟨p, a * 21 + b, none⟩ = some (.slice (s.ways (a * 21 + b)).A (s.ways (a * 21 + b)).ps.length (s.ways (a * 21 + b)).c) := h.cell (by omega)
  have HR := hide (fun u => right_yes a b u ha hb hab)
  by_cases c1 : i < 0
  · have g1 : decide (i < 0) = true := decide_eq_true c1
    clear hab hi
    go_enter Try.func27, Try.ntmps27
    go_wp2_with (go_at_call 26; refine (unhide HR _).mono ?_; rintro _ w2 ⟨rfl, rfl⟩)
    go_ret
    exact ⟨rfl, rfl⟩
  · have g1 : decide (i < 0) = false := decide_eq_false c1
    have g2 : decide (((s.ways (a * 21 + b)).ps.length : Int) ≤ i) = true := decide_eq_true (by omega)
    clear hab hi
    go_enter Try.func27, Try.ntmps27
    go_wp2_with (go_at_call 26; refine (unhide HR _).mono ?_; rintro _ w2 ⟨rfl, rfl⟩)
    go_ret
    exact ⟨rfl, rfl⟩
/-- which error: no such way -/
theorem at_bad (p : Nat) (f t i : Int) (w : World) (h : ¬ Rt f t) : Calls Try.prog 27 #[.pointer (some ⟨p, 0, none⟩), .int .i64 f, .int .i64 t, .int .i64 i] w fun e w' => e = .returned (.int .i64 1) ∧ w = w' := by
  have HR := hide (fun u => right_no f t u h)
  clear h
  go_enter Try.func27, Try.ntmps27
  go_wp2_with (go_at_call 26; refine (unhide HR _).mono ?_; rintro _ w2 ⟨rfl, rfl⟩)
  go_ret
  exact ⟨rfl, rfl⟩
theorem at_nil (f t i : Int) (w : World) : Calls Try.prog 27 #[.pointer none, .int .i64 f, .int .i64 t, .int .i64 i] w fun e w' => e = .returned (.int .i64 1) ∧ w = w' := by
  go_enter Try.func27, Try.ntmps27
  go_wp2_with fail
  go_ret
  exact ⟨rfl, rfl⟩
end Go.Proofs.Ytbclfiollfagmaa
