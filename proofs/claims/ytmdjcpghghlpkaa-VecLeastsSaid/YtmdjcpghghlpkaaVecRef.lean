/- The walks of the document's vectors: Plain, Raise, Least, Resize; told; New. -/
import Derived.Test.YtmdjcpghghlpkaaVecOpen
namespace Go.Proofs.Ytmdjcpghghlpkaa
open Go.RowKit
set_option linter.unusedVariables false

theorem told_any (v : Vec.V) (w : World) :
    Calls Try.prog 13 #[Vec.val v] w fun e w' => e = .returned (Vec.val v) ∧ Below w.heap.size w w' := by
  show Calls Try.prog 13 #[.agg #[.int .i64 v.ep, .bool (v.h 0), .bool (v.h 1), .bool (v.h 2), .bool (v.h 3), .int .u64 (v.t 0), .int .u64 (v.t 1), .int .u64 (v.t 2), .int .u64 (v.t 3)]] w _
  have HM := hide (((Mem.start w).new (t := 26) (cs := Vec.cells v) w.heap.size rfl).new (t := 37) (cs := Vec.cells Vec.zero) (w.heap.size + 1) (by simp))
  go_enter Try.func13, Try.ntmps13
  go_wp2_with (refine wpList_store_blk rfl 37 (.tmp 2) (.tmp 9) rfl (w.heap.size + 1) _ rfl rfl 37 _ (unhide HM).blk0 (by kernel_rfl) rfl (Vec.cells_one _) ?_; intro w2 hbS hgS; have HM2 := hide ((unhide HM).grown0 hbS hgS); clear hbS hgS)
  refine bodyPost_ret (results_cell_row rfl _ _ (w.heap.size + 1) 37 _ (0, 0) _ rfl (unhide HM2).blk0 Try.underlying37 rfl (by kernel_rfl)) rfl ⟨rfl, (unhide HM2).below⟩

set_option maxHeartbeats 1000000 in
theorem refPlain_any (v : Vec.V) (w : World) :
    Calls Try.prog 16 #[Vec.val v] w fun e w' => e = .returned (Vec.val (Vec.plain v)) ∧ Below w.heap.size w w' := by
  rw [show Vec.val (Vec.plain v) = .agg (Vec.cells (Vec.refPlainTo 4 v)) by rw [Vec.cells_refPlain]]
  show Calls Try.prog 16 #[.agg #[.int .i64 v.ep, .bool (v.h 0), .bool (v.h 1), .bool (v.h 2), .bool (v.h 3), .int .u64 (v.t 0), .int .u64 (v.t 1), .int .u64 (v.t 2), .int .u64 (v.t 3)]] w _
  go_enter Try.func16, Try.ntmps16
  go_wp2
  go_loopw [4] (fun i wr => ∃ k : Nat, k ≤ 4 ∧ i = .int .i64 k ∧ Mem w wr [(w.heap.size + 1 + 1, 37, Vec.cells (Vec.refPlainTo k v)), (w.heap.size + 1, 37, Vec.cells Vec.zero), (w.heap.size, 37, Vec.cells v)]) (fun i _ => 4 - (intOf i).toNat)
  case atStart =>
    refine ⟨0, by omega, rfl, Mem.as0 (cs := ?mm0) ?mm1 ?mm2⟩
    case mm1 => exact (((Mem.start w).new (cs := Vec.cells v) w.heap.size rfl).new (cs := Vec.cells Vec.zero) (w.heap.size + 1) (by simp)).new (w.heap.size + 1 + 1) (by simp)
    case mm2 => simp [Vec.cells, Vec.refPlainTo]
  case round =>
    obtain ⟨k, hk, rfl, hm⟩ := hrel
    have HM := hide hm
    by_cases hlt : k < 4
    · have c1 := Vec.atH hm.blk2 hlt
      have c2 := Vec.atT hm.blk2 hlt
      have c3 := hm.blk0.cell (5 + k)
      have fz := hm.blk0.frozen (5 + k)
      rw [Vec.cells_time _ hlt] at c3
      clear hm
      cases hh : v.h k with
      | true =>
        rw [hh] at c1
        have HC := hide (Vec.cells_refPlainTo_on hh hlt)
        clear hh
        go_wp2
        exact ⟨⟨k + 1, by omega, by go_num, (unhide HM).set0.as0 (unhide HC).symm⟩, by simp [intOf]; omega⟩
      | false =>
        rw [hh] at c1
        have HC := hide (Vec.cells_refPlainTo_off hh)
        clear hh
        go_wp2
        exact ⟨⟨k + 1, by omega, by go_num, (unhide HM).as0 (unhide HC).symm⟩, by simp [intOf]; omega⟩
    · obtain rfl : k = 4 := by omega
      clear hm
      go_wp2_with (first | (refine wpList_load_blk rfl 37 (.tmp 3) rfl (w.heap.size + 1 + 1) rfl 37 _ _ ((unhide HM).blk0) Try.underlying37 rfl (by kernel_rfl) ?_) | (refine wpList_store_blk rfl 37 (.tmp 2) (.tmp 25) rfl (w.heap.size + 1) _ rfl rfl 37 _ (unhide HM).blk1 (by kernel_rfl) rfl (Vec.cells_one _) ?_; intro w2 hbS hgS; have HM2 := hide ((unhide HM).grown1 hbS hgS); clear hbS hgS))
      refine bodyPost_ret (results_cell_row rfl _ _ (w.heap.size + 1) 37 _ (0, 0) _ rfl (unhide HM2).blk1 Try.underlying37 rfl (by kernel_rfl)) rfl ⟨rfl, (unhide HM2).below⟩

set_option maxHeartbeats 1000000 in
theorem refRaise_any (v : Vec.V) (dc t : Int) (w : World) :
    Calls Try.prog 17 #[Vec.val v, .int .i64 dc, .int .u64 t] w fun e w' => e = .returned (Vec.val (Vec.raise v dc t)) ∧ Below w.heap.size w w' := by
  rw [show Vec.val (Vec.raise v dc t) = .agg (Vec.cells (Vec.refRaiseTo 4 v dc t)) by rw [Vec.cells_refRaise]]
  have HP := hide (fun w => refPlain_any v w)
  have HM := hide (((Mem.start w).new (t := 37) (cs := Vec.cells v) w.heap.size rfl).new (t := 37) (cs := Vec.cells Vec.zero) (w.heap.size + 1) (by simp))
  go_enter Try.func17, Try.ntmps17
  go_wp2_with (refine wpList_load_blk rfl 37 (.tmp 3) rfl (w.heap.size) rfl 37 _ _ ((unhide HM).blk1) Try.underlying37 rfl (by kernel_rfl) ?_)
  refine (unhide HP _).mono ?_; rintro _ w1 ⟨rfl, hb⟩; have HM1 := hide ((unhide HM).called hb); clear hb
  have HM2 := hide ((unhide HM1).new (t := 37) (cs := Vec.cells Vec.zero) w1.heap.size rfl)
  go_wp2_with (refine wpList_store_blk rfl 37 (.tmp 7) (.tmp 10) rfl (w1.heap.size) _ rfl rfl 37 _ (unhide HM2).blk0 (by kernel_rfl) rfl (Vec.cells_one _) ?_; intro w2 hbS hgS; have HM3 := hide ((unhide HM2).grown0 hbS hgS); clear hbS hgS)
  clear HM HM1 HM2
  go_loopw [8] (fun i wr => ∃ k : Nat, k ≤ 4 ∧ i = .int .i64 k ∧ Mem w wr [(w1.heap.size, 37, Vec.cells (Vec.refRaiseTo k v dc t)), (w.heap.size + 1, 37, Vec.cells Vec.zero), (w.heap.size, 37, Vec.cells v)]) (fun i _ => 4 - (intOf i).toNat)
  case atStart => exact ⟨0, by omega, rfl, (unhide HM3).as0 (by rw [Vec.refRaiseTo_zero])⟩
  case round =>
    clear HM3
    obtain ⟨k, hk, rfl, hm⟩ := hrel
    have HM := hide hm
    by_cases hlt : k < 4
    · have c1 := Vec.atH hm.blk2 hlt
      have c3 := hm.blk0.cell (5 + k)
      have fz := hm.blk0.frozen (5 + k)
      rw [Vec.cells_time _ hlt] at c3
      have et : (Vec.refRaiseTo k v dc t).t k = (Vec.plain v).t k := by simp [Vec.refRaiseTo]
      rw [et] at c3
      clear hm et
      by_cases hd : (k : Int) = dc
      · have HD := hide hd
        have fd : ((k : Int) == dc) = true := beq_iff_eq.2 hd
        clear hd
        cases hh : v.h k with
        | true =>
          rw [hh] at c1
          have HH := hide hh
          clear hh
          by_cases hl : (Vec.plain v).t k < t
          · have HC := hide (Vec.cells_refRaiseTo_on hlt (unhide HD) (unhide HH) hl)
            go_wp2
            exact ⟨⟨k + 1, by omega, by go_num, (unhide HM).set0.as0 (unhide HC).symm⟩, by simp [intOf]; omega⟩
          · have HC := hide (Vec.cells_refRaiseTo_off (k := k) (v := v) (dc := dc) (t := t) (fun _ _ => by omega))
            go_wp2
            exact ⟨⟨k + 1, by omega, by go_num, (unhide HM).as0 (unhide HC).symm⟩, by simp [intOf]; omega⟩
        | false =>
          rw [hh] at c1
          have HC := hide (Vec.cells_refRaiseTo_off (k := k) (v := v) (dc := dc) (t := t) (fun _ h => by rw [hh] at h; cases h))
          clear hh
          go_wp2
          exact ⟨⟨k + 1, by omega, by go_num, (unhide HM).as0 (unhide HC).symm⟩, by simp [intOf]; omega⟩
      · have fd : ((k : Int) == dc) = false := beq_eq_false_iff_ne.2 hd
        have HC := hide (Vec.cells_refRaiseTo_off (k := k) (v := v) (dc := dc) (t := t) (fun h _ => absurd h hd))
        clear hd
        go_wp2
        exact ⟨⟨k + 1, by omega, by go_num, (unhide HM).as0 (unhide HC).symm⟩, by simp [intOf]; omega⟩
    · obtain rfl : k = 4 := by omega
      clear hm
      go_wp2_with (first | (refine wpList_load_blk rfl 37 (.tmp 7) rfl (w1.heap.size) rfl 37 _ _ ((unhide HM).blk0) Try.underlying37 rfl (by kernel_rfl) ?_) | (refine wpList_store_blk rfl 37 (.tmp 6) (.tmp 36) rfl (w.heap.size + 1) _ rfl rfl 37 _ (unhide HM).blk1 (by kernel_rfl) rfl (Vec.cells_one _) ?_; intro w2 hbS hgS; have HM2 := hide ((unhide HM).grown1 hbS hgS); clear hbS hgS))
      refine bodyPost_ret (results_cell_row rfl _ _ (w.heap.size + 1) 37 _ (0, 0) _ rfl (unhide HM2).blk1 Try.underlying37 rfl (by kernel_rfl)) rfl ⟨rfl, (unhide HM2).below⟩

theorem Vec.has_get (h : Nat → Bool) {d : Nat} (hd : d < 4) : (Vec.hasCells h)[d]? = some (.bool (h d)) := by
  have h4 : d = 0 ∨ d = 1 ∨ d = 2 ∨ d = 3 := by omega
  rcases h4 with rfl | rfl | rfl | rfl <;> rfl
theorem Vec.one_has (h : Nat → Bool) : (Vec.hasCells h).all (·.oneCell') = true := by simp [Vec.hasCells, Value.oneCell']
set_option maxHeartbeats 1000000 in
theorem refResize_no (v : Vec.V) (ep : Int) (has : Nat → Bool) (w : World) (h : ep ≤ v.ep) :
    Calls Try.prog 14 #[Vec.val v, .int .i64 ep, .agg (Vec.hasCells has)] w fun e w' => e = .returned (.tuple #[Vec.val Vec.zero, .int .i64 11]) ∧ Below w.heap.size w w' := by
  have HM := hide ((((Mem.start w).new (t := 37) (cs := Vec.cells v) w.heap.size rfl).new (t := 22) (cs := Vec.hasCells has) (w.heap.size + 1) (by simp)).new (t := 37) (cs := Vec.cells Vec.zero) (w.heap.size + 1 + 1) (by simp))
  show Calls Try.prog 14 #[.agg #[.int .i64 v.ep, .bool (v.h 0), .bool (v.h 1), .bool (v.h 2), .bool (v.h 3), .int .u64 (v.t 0), .int .u64 (v.t 1), .int .u64 (v.t 2), .int .u64 (v.t 3)], .int .i64 ep, .agg #[.bool (has 0), .bool (has 1), .bool (has 2), .bool (has 3)]] w _
  go_enter Try.func14, Try.ntmps14
  go_wp2
  exact ret_cell_tmp rfl (w.heap.size + 1 + 1) _ rfl (run_loadVar_row _ _ 37 37 _ (0, 0) _ (unhide HM).blk0 Try.underlying37 rfl (by kernel_rfl)) rfl ⟨rfl, (unhide HM).below⟩
set_option maxHeartbeats 1000000 in
theorem refResize_yes (v : Vec.V) (ep : Int) (has : Nat → Bool) (w : World) (h : v.ep < ep) :
    Calls Try.prog 14 #[Vec.val v, .int .i64 ep, .agg (Vec.hasCells has)] w fun e w' => e = .returned (.tuple #[Vec.val (Vec.resized v ep has), .int .i64 0]) ∧ Below w.heap.size w w' := by
  rw [show Vec.val (Vec.resized v ep has) = .agg (Vec.cells (Vec.refResizeTo 4 v ep has)) by rw [Vec.cells_refResize]]
  have HM := hide ((((Mem.start w).new (t := 37) (cs := Vec.cells v) w.heap.size rfl).new (t := 22) (cs := Vec.hasCells has) (w.heap.size + 1) (by simp)).new (t := 37) (cs := Vec.cells Vec.zero) (w.heap.size + 1 + 1) (by simp))
  show Calls Try.prog 14 #[.agg #[.int .i64 v.ep, .bool (v.h 0), .bool (v.h 1), .bool (v.h 2), .bool (v.h 3), .int .u64 (v.t 0), .int .u64 (v.t 1), .int .u64 (v.t 2), .int .u64 (v.t 3)], .int .i64 ep, .agg #[.bool (has 0), .bool (has 1), .bool (has 2), .bool (has 3)]] w _
  go_enter Try.func14, Try.ntmps14
  go_wp2
  go_loopw [9] (fun i wr => ∃ k : Nat, k ≤ 4 ∧ i = .int .i64 k ∧ Mem w wr [(w.heap.size + 1 + 1 + 1, 37, Vec.cells (Vec.refResizeTo k v ep has)), (w.heap.size + 1 + 1, 37, Vec.cells Vec.zero), (w.heap.size + 1, 22, Vec.hasCells has), (w.heap.size, 37, Vec.cells v)]) (fun i _ => 4 - (intOf i).toNat)
  case atStart =>
    refine ⟨0, by omega, rfl, Mem.as0 (cs := ?mm0) ?mm1 ?mm2⟩
    case mm1 => exact (unhide HM).new (w.heap.size + 1 + 1 + 1) (by simp)
    case mm2 => simp [Vec.cells, Vec.refResizeTo]
  case round =>
    clear HM
    obtain ⟨k, hk, rfl, hm⟩ := hrel
    have HM := hide hm
    by_cases hlt : k < 4
    · have c0 := hm.blk2.cell k
      rw [Vec.has_get _ hlt] at c0
      have c1 := Vec.atH hm.blk3 hlt
      have c2 := Vec.atT hm.blk3 hlt
      have c3 := hm.blk0.cell (5 + k)
      have fz := hm.blk0.frozen (5 + k)
      rw [Vec.cells_time _ hlt] at c3
      clear hm
      cases h1 : has k with
      | true =>
        rw [h1] at c0
        cases h2 : v.h k with
        | true =>
          rw [h2] at c1
          have HC := hide (Vec.cells_refResizeTo_on (ep := ep) hlt h1 h2)
          clear h1 h2
          go_wp2
          exact ⟨⟨k + 1, by omega, by go_num, (unhide HM).set0.as0 (unhide HC).symm⟩, by simp [intOf]; omega⟩
        | false =>
          rw [h2] at c1
          have HC := hide (Vec.cells_refResizeTo_off (k := k) (v := v) (ep := ep) (has := has) (fun x => by rw [h2] at x; cases x.2))
          clear h1 h2
          go_wp2
          exact ⟨⟨k + 1, by omega, by go_num, (unhide HM).as0 (unhide HC).symm⟩, by simp [intOf]; omega⟩
      | false =>
        rw [h1] at c0
        have HC := hide (Vec.cells_refResizeTo_off (k := k) (v := v) (ep := ep) (has := has) (fun x => by rw [h1] at x; cases x.1))
        clear h1
        go_wp2
        exact ⟨⟨k + 1, by omega, by go_num, (unhide HM).as0 (unhide HC).symm⟩, by simp [intOf]; omega⟩
    · obtain rfl : k = 4 := by omega
      clear hm
      go_wp2_with (first | (refine wpList_load_blk rfl 37 (.tmp 8) rfl (w.heap.size + 1 + 1 + 1) rfl 37 _ _ ((unhide HM).blk0) Try.underlying37 rfl (by kernel_rfl) ?_) | (refine wpList_store_blk rfl 37 (.tmp 6) (.tmp 38) rfl (w.heap.size + 1 + 1) _ rfl rfl 37 _ (unhide HM).blk1 (by kernel_rfl) rfl (Vec.cells_one _) ?_; intro w2 hbS hgS; have HM2 := hide ((unhide HM).grown1 hbS hgS); clear hbS hgS))
      exact ret_cell_tmp rfl (w.heap.size + 1 + 1) _ rfl (run_loadVar_row _ _ 37 37 _ (0, 0) _ (unhide HM2).blk1 Try.underlying37 rfl (by kernel_rfl)) rfl ⟨rfl, (unhide HM2).below⟩
theorem refResize_any (v : Vec.V) (ep : Int) (has : Nat → Bool) (w : World) :
    Calls Try.prog 14 #[Vec.val v, .int .i64 ep, .agg (Vec.hasCells has)] w fun e w' => e = .returned (.tuple #[Vec.val (Vec.resize v ep has).1, .int .i64 (Vec.resize v ep has).2]) ∧ Below w.heap.size w w' := by
  unfold Vec.resize
  by_cases h : ep ≤ v.ep
  · rw [if_pos h]
    exact refResize_no v ep has w h
  · rw [if_neg h]
    exact refResize_yes v ep has w (by omega)

theorem new_any (ep : Int) (has : Nat → Bool) (w : World) :
    Calls Try.prog 15 #[.int .i64 ep, .agg (Vec.hasCells has)] w fun e w' => e = .returned (Vec.val ⟨ep, has, fun _ => 0⟩) ∧ Below w.heap.size w w' := by
  show Calls Try.prog 15 #[.int .i64 ep, .agg #[.bool (has 0), .bool (has 1), .bool (has 2), .bool (has 3)]] w _
  have HM := hide (((Mem.start w).new (t := 22) (cs := Vec.hasCells has) w.heap.size rfl).new (t := 26) (cs := Vec.cells ⟨ep, has, fun _ => 0⟩) (w.heap.size + 1) (by simp))
  go_enter Try.func15, Try.ntmps15
  go_wp2
  refine bodyPost_ret (results_cell_row rfl _ _ (w.heap.size + 1) 26 _ (0, 0) _ rfl (unhide HM).blk0 Try.underlying26 rfl (by kernel_rfl)) rfl ⟨rfl, (unhide HM).below⟩

set_option maxHeartbeats 2000000 in
theorem refLeast_any (v : Vec.V) (w : World) :
    Calls Try.prog 12 #[Vec.val v] w fun e w' => e = .returned (.tuple #[.int .u64 (Vec.least v).1, .bool (Vec.least v).2]) ∧ Below w.heap.size w w' := by
  show Calls Try.prog 12 #[.agg #[.int .i64 v.ep, .bool (v.h 0), .bool (v.h 1), .bool (v.h 2), .bool (v.h 3), .int .u64 (v.t 0), .int .u64 (v.t 1), .int .u64 (v.t 2), .int .u64 (v.t 3)]] w _
  go_enter Try.func12, Try.ntmps12
  go_wp2
  go_loopw [4] (fun i wr => ∃ k : Nat, k ≤ 4 ∧ i = .int .i64 k ∧ (∀ j, j < k → Vec.isLeast v j 4 = false) ∧ Mem w wr [(w.heap.size, 37, Vec.cells v)]) (fun i _ => 4 - (intOf i).toNat)
  case atStart => exact ⟨0, by omega, rfl, fun j h => absurd h (by omega), (Mem.start w).new _ rfl⟩
  case round =>
    obtain ⟨k, hk, rfl, hno, hm⟩ := hrel
    have HM := hide hm
    have HN := hide hno
    clear hno
    by_cases hlt : k < 4
    · have c1 := Vec.atH hm.blk0 hlt
      have c2 := Vec.atT hm.blk0 hlt
      clear hm
      go_wp2
      go_loopw [5, 6] (fun b i wr => ∃ q : Nat, q ≤ 4 ∧ i = .int .i64 q ∧ b = .bool (Vec.isLeast v k q) ∧ Mem w wr [(w.heap.size, 37, Vec.cells v)]) (fun _ i _ => 4 - (intOf i).toNat)
      case atStart => exact ⟨0, by omega, rfl, rfl, unhide HM⟩
      case round =>
        obtain ⟨q, hq, rfl, rfl, hm⟩ := hrel
        clear HM c1 c2
        have HM := hide hm
        have c2 := Vec.atT hm.blk0 hlt
        by_cases hqt : q < 4
        · have c1 := Vec.atH hm.blk0 hqt
          have c3 := Vec.atT hm.blk0 hqt
          have HL : Hid (Vec.isLeast v k (q + 1) = (Vec.isLeast v k q && (!v.h q || decide (v.t k ≤ v.t q)))) := rfl
          clear hm
          cases hl : Vec.isLeast v k q with
          | false =>
            rw [hl] at HL
            go_wp2
            go_quiet (fail)
            go_wp2
            exact ⟨⟨q + 1, by omega, by go_num, by rw [unhide HL]; rfl, (unhide HM).drewN _⟩, by simp [intOf]; omega⟩
          | true =>
            rw [hl] at HL
            cases hh : v.h q with
            | false =>
              rw [hh] at HL c1
              go_wp2
              go_quiet (fail)
              go_wp2
              exact ⟨⟨q + 1, by omega, by go_num, by rw [unhide HL]; rfl, (unhide HM).drewN _⟩, by simp [intOf]; omega⟩
            | true =>
              rw [hh] at HL c1
              by_cases ht : v.t k ≤ v.t q
              · rw [decide_eq_true ht] at HL
                go_wp2
                go_quiet (fail)
                go_wp2
                exact ⟨⟨q + 1, by omega, by go_num, by rw [unhide HL]; rfl, (unhide HM).drewN _⟩, by simp [intOf]; omega⟩
              · rw [decide_eq_false ht] at HL
                have fd : decide (v.t k ≤ v.t q) = false := decide_eq_false ht
                clear ht
                go_wp2
                go_quiet (fail)
                go_wp2
                exact ⟨⟨q + 1, by omega, by go_num, by rw [unhide HL]; rfl, (unhide HM).drewN _⟩, by simp [intOf]; omega⟩
        · obtain rfl : q = 4 := by omega
          clear hm
          cases hl : Vec.isLeast v k 4 with
          | true =>
            have HL := hide (Vec.least_of_isLeast hlt hl)
            go_wp2
            go_ret2
            rw [unhide HL]
            exact ⟨rfl, (unhide HM).below⟩
          | false =>
            go_wp2
            refine ⟨⟨k + 1, by omega, by go_num, fun j hj => ?_, unhide HM⟩, by simp [intOf]; omega⟩
            by_cases e : j = k
            · subst e; exact hl
            · exact unhide HN j (by omega)
    · obtain rfl : k = 4 := by omega
      have HL := hide (Vec.least_of_none (unhide HN))
      clear hm
      go_wp2
      go_ret2
      rw [unhide HL]
      exact ⟨rfl, (unhide HM).below⟩
end Go.Proofs.Ytmdjcpghghlpkaa
