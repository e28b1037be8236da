/- The walk of Merge. -/
import Derived.Test.YtmdjcpghghlpkaaVecOpen
import Derived.Deep.RegionWith
namespace Go.Proofs.Ytmdjcpghghlpkaa
open Go.RowKit
set_option linter.unusedVariables false

theorem Vec.setAllOn (v u : Vec.V) : (((((((((Vec.cells v).setIfInBounds 0 (.int .i64 u.ep)).setIfInBounds 1 (.bool (u.h 0))).setIfInBounds 2 (.bool (u.h 1))).setIfInBounds 3 (.bool (u.h 2))).setIfInBounds 4 (.bool (u.h 3))).setIfInBounds 5 (.int .u64 (u.t 0))).setIfInBounds 6 (.int .u64 (u.t 1))).setIfInBounds 7 (.int .u64 (u.t 2))).setIfInBounds 8 (.int .u64 (u.t 3)) = Vec.cells u := by
  simp [Vec.cells]
theorem Vec.frozenAt {w : World} {g : Nat} {t : TypeId} {cs : Array Value} (h : Blk w g t cs) :
    w.frozen? ⟨g, 0, none⟩ = false ∧ w.frozen? ⟨g, 1, none⟩ = false ∧ w.frozen? ⟨g, 2, none⟩ = false ∧ w.frozen? ⟨g, 3, none⟩ = false ∧ w.frozen? ⟨g, 4, none⟩ = false ∧
    w.frozen? ⟨g, 5, none⟩ = false ∧ w.frozen? ⟨g, 6, none⟩ = false ∧ w.frozen? ⟨g, 7, none⟩ = false ∧ w.frozen? ⟨g, 8, none⟩ = false :=
  ⟨h.frozen 0, h.frozen 1, h.frozen 2, h.frozen 3, h.frozen 4, h.frozen 5, h.frozen 6, h.frozen 7, h.frozen 8⟩

set_option maxHeartbeats 2000000 in
set_option maxRecDepth 20000 in
theorem merge_any (a b : Vec.V) (w : World) :
    Calls Try.prog 18 #[Vec.val a, Vec.val b] w fun e w' => e = .returned (Vec.val (Vec.merge a b)) ∧ Below w.heap.size w w' := by
  show Calls Try.prog 18 #[.agg #[.int .i64 a.ep, .bool (a.h 0), .bool (a.h 1), .bool (a.h 2), .bool (a.h 3), .int .u64 (a.t 0), .int .u64 (a.t 1), .int .u64 (a.t 2), .int .u64 (a.t 3)],
    .agg #[.int .i64 b.ep, .bool (b.h 0), .bool (b.h 1), .bool (b.h 2), .bool (b.h 3), .int .u64 (b.t 0), .int .u64 (b.t 1), .int .u64 (b.t 2), .int .u64 (b.t 3)]] w _
  have HM := hide ((((Mem.start w).new (t := 26) (cs := Vec.cells a) w.heap.size rfl).new (t := 26) (cs := Vec.cells b) (w.heap.size + 1) (by simp)).new (t := 26) (cs := Vec.cells Vec.zero) (w.heap.size + 1 + 1) (by simp))
  have HA : Hid (∀ w, Calls Try.prog 10 #[Vec.val a] w fun e w' => e = .returned (.agg #[.int .i64 (Vec.plain a).ep, .bool ((Vec.plain a).h 0), .bool ((Vec.plain a).h 1), .bool ((Vec.plain a).h 2), .bool ((Vec.plain a).h 3), .int .u64 ((Vec.plain a).t 0), .int .u64 ((Vec.plain a).t 1), .int .u64 ((Vec.plain a).t 2), .int .u64 ((Vec.plain a).t 3)]) ∧ Below w.heap.size w w') := fun w => plain_any a w
  have HB : Hid (∀ w, Calls Try.prog 10 #[Vec.val b] w fun e w' => e = .returned (.agg #[.int .i64 (Vec.plain b).ep, .bool ((Vec.plain b).h 0), .bool ((Vec.plain b).h 1), .bool ((Vec.plain b).h 2), .bool ((Vec.plain b).h 3), .int .u64 ((Vec.plain b).t 0), .int .u64 ((Vec.plain b).t 1), .int .u64 ((Vec.plain b).t 2), .int .u64 ((Vec.plain b).t 3)]) ∧ Below w.heap.size w w') := fun w => plain_any b w
  have HG : Hid (Vec.merge a b = if (Vec.plain a).ep < (Vec.plain b).ep then Vec.mergeTo 4 (Vec.plain b) (Vec.plain a) else Vec.mergeTo 4 (Vec.plain a) (Vec.plain b)) := rfl
  generalize Vec.plain a = pa at HA HG
  generalize Vec.plain b = pb at HB HG
  have HG2 : Hid (∃ x y : Vec.V, Vec.merge a b = Vec.mergeTo 4 x y ∧ ((pa.ep < pb.ep ∧ x = pb ∧ y = pa) ∨ (pb.ep ≤ pa.ep ∧ x = pa ∧ y = pb))) := by
    by_cases h : pa.ep < pb.ep
    · exact ⟨pb, pa, (unhide HG).trans (if_pos h), .inl ⟨h, rfl, rfl⟩⟩
    · exact ⟨pa, pb, (unhide HG).trans (if_neg h), .inr ⟨by omega, rfl, rfl⟩⟩
  obtain ⟨x, y, hxy, hor⟩ := unhide HG2
  have HOR := hide hor
  rw [hxy]
  clear HG HG2 hxy hor
  go_enter Try.func18, Try.ntmps18
  go_wp2_with fail
  go_cut [5] (fun s5 wx => Mem w wx [(w.heap.size + 1 + 1, 26, Vec.cells Vec.zero), (w.heap.size + 1, 26, Vec.cells pb), (w.heap.size, 26, Vec.cells pa)])
  case first =>
    go_region_with (first
      | (go_at_call_of 10 (a.ep);
            refine (unhide HA _).mono ?_; rintro _ w1 ⟨rfl, hb⟩; have HM1 := hide ((unhide HM).drew.called hb); have fb := Vec.cellsAt (unhide HM1).blk1; clear hb)
      | (go_at_call_of 10 (b.ep);
            refine (unhide HB _).mono ?_; rintro _ w2 ⟨rfl, hb⟩; have HM2 := hide ((unhide HM1).called hb); clear hb;
             have fa := Vec.cellsAt (unhide HM2).blk2; have fb := Vec.cellsAt (unhide HM2).blk1; have ff := Vec.frozenAt (unhide HM2).blk2; have fg := Vec.frozenAt (unhide HM2).blk1))
    all_goals go_wp2_with fail
    all_goals go_meet
    all_goals exact ((unhide HM2).set2.set2.set2.set2.set2.set2.set2.set2.set2.as2 (Vec.setAllOn a pa)).set1.set1.set1.set1.set1.set1.set1.set1.set1.as1 (Vec.setAllOn b pb)
  case rest =>
    have HM2 := hide hcut
    have fE1 := Vec.atE hcut.blk2
    have fE2 := Vec.atE hcut.blk1
    clear hcut HA HB HM
    go_upto_if 14 with fail
    go_cut [5] (fun s5 wx => Mem w wx [(w.heap.size + 1 + 1, 26, Vec.cells Vec.zero), (w.heap.size + 1, 26, Vec.cells y), (w.heap.size, 26, Vec.cells x)])
    case first =>
      rcases unhide HOR with ⟨h, rfl, rfl⟩ | ⟨h, rfl, rfl⟩
      · go_wp2_with (first
          | (refine wpList_load_blk rfl 26 (.tmp 3) rfl (w.heap.size + 1) rfl 26 _ _ ((unhide HM2).blk1) Try.underlying26 rfl (by kernel_rfl) ?_)
          | (refine wpList_load_blk rfl 26 (.tmp 2) rfl (w.heap.size) rfl 26 _ _ ((unhide HM2).blk2) Try.underlying26 rfl (by kernel_rfl) ?_)
          | (refine wpList_store_blk rfl 26 (.tmp 2) (.tmp 15) rfl (w.heap.size) _ rfl rfl 26 _ (unhide HM2).blk2 (by kernel_rfl) rfl (Vec.cells_one _) ?_; intro w3 hbS hgS; have HM3 := hide ((unhide HM2).grown2 hbS hgS); clear hbS hgS)
          | (refine wpList_store_blk rfl 26 (.tmp 3) (.tmp 16) rfl (w.heap.size + 1) _ rfl rfl 26 _ (unhide HM3).blk1 (by kernel_rfl) rfl (Vec.cells_one _) ?_; intro w4 hbS hgS; have HM4 := hide ((unhide HM3).grown1 hbS hgS); clear hbS hgS))
        all_goals go_meet
        exact unhide HM4
      · go_wp2
        all_goals go_meet
        exact unhide HM2
    case rest =>
      have HM3 := hide hcut
      clear hcut HM2 fE1 fE2 HOR
      go_wp2
      go_loopw [17] (fun i wr => ∃ k : Nat, k ≤ 4 ∧ i = .int .i64 k ∧ Mem w wr [(w.heap.size + 1 + 1, 26, Vec.cells Vec.zero), (w.heap.size + 1, 26, Vec.cells y), (w.heap.size, 26, Vec.cells (Vec.mergeTo k x y))]) (fun i _ => 4 - (intOf i).toNat)
      case atStart => exact ⟨0, by omega, rfl, (unhide HM3).as2 (by rw [Vec.mergeTo_zero])⟩
      case round =>
        clear HM3
        obtain ⟨k, hk, rfl, hm⟩ := hrel
        have HM := hide hm
        by_cases hlt : k < 4
        · have e1 := Vec.atE hm.blk2
          have e2 := Vec.atE hm.blk1
          have c0 := hm.blk2.cell (1 + k)
          have c1 := Vec.atH hm.blk1 hlt
          have c2 := hm.blk2.cell (5 + k)
          have c3 := Vec.atT hm.blk1 hlt
          have f0 := hm.blk2.frozen (1 + k)
          have f1 := hm.blk2.frozen (5 + k)
          rw [Vec.cells_has _ hlt, Vec.mergeTo_h] at c0
          rw [Vec.cells_time _ hlt, Vec.mergeTo_t] at c2
          have e3 : (Vec.mergeTo k x y).ep = x.ep := rfl
          rw [e3] at e1
          clear hm e3
          by_cases he : x.ep = y.ep
          · have fe : (x.ep == y.ep) = true := beq_iff_eq.2 he
            have HE := hide he
            clear he
            cases hm1 : Vec.memb x y k with
            | false =>
              have HC := hide (Vec.cells_mergeTo_none hlt (unhide HE) hm1)
              have h2 : x.h k = false ∧ y.h k = false := by
                unfold Vec.memb at hm1
                rw [if_pos (unhide HE)] at hm1
                exact Bool.or_eq_false_iff.1 hm1
              rw [h2.1] at c0
              rw [h2.2] at c1
              clear h2 hm1
              go_wp2
              exact ⟨⟨k + 1, by omega, by go_num, (unhide HM).set2.as2 (unhide HC).symm⟩, by simp [intOf]; omega⟩
            | true =>
              have HC := hide (Vec.cells_mergeTo_same hlt (unhide HE) hm1)
              have h2 : x.h k = true ∨ (x.h k = false ∧ y.h k = true) := by
                unfold Vec.memb at hm1
                rw [if_pos (unhide HE)] at hm1
                cases hx : x.h k with
                | true => exact .inl rfl
                | false => rw [hx] at hm1; exact .inr ⟨rfl, by simpa using hm1⟩
              clear hm1
              rcases h2 with h2 | ⟨h2, h3⟩
              · rw [h2] at c0
                clear h2
                by_cases hl : x.t k < y.t k
                · rw [show max (x.t k) (y.t k) = y.t k by omega] at HC
                  go_wp2
                  go_region
                  all_goals go_wp2
                  all_goals exact ⟨⟨k + 1, by omega, by go_num, (unhide HM).set2.set2.drew.as2 (unhide HC).symm⟩, by simp [intOf]; omega⟩
                · rw [show max (x.t k) (y.t k) = x.t k by omega] at HC
                  have hl : y.t k ≤ x.t k := by omega
                  go_wp2
                  go_region
                  all_goals go_wp2
                  all_goals exact ⟨⟨k + 1, by omega, by go_num, (unhide HM).set2.set2.drew.as2 (unhide HC).symm⟩, by simp [intOf]; omega⟩
              · rw [h2] at c0
                rw [h3] at c1
                clear h2 h3
                by_cases hl : x.t k < y.t k
                · rw [show max (x.t k) (y.t k) = y.t k by omega] at HC
                  go_wp2
                  go_region
                  all_goals go_wp2
                  all_goals exact ⟨⟨k + 1, by omega, by go_num, (unhide HM).set2.set2.drew.as2 (unhide HC).symm⟩, by simp [intOf]; omega⟩
                · rw [show max (x.t k) (y.t k) = x.t k by omega] at HC
                  have hl : y.t k ≤ x.t k := by omega
                  go_wp2
                  go_region
                  all_goals go_wp2
                  all_goals exact ⟨⟨k + 1, by omega, by go_num, (unhide HM).set2.set2.drew.as2 (unhide HC).symm⟩, by simp [intOf]; omega⟩
          · have fe : (x.ep == y.ep) = false := beq_eq_false_iff_ne.2 he
            cases hx : x.h k with
            | false =>
              have HC := hide (Vec.cells_mergeTo_other he hx)
              rw [hx] at c0
              clear he hx
              go_wp2
              exact ⟨⟨k + 1, by omega, by go_num, (unhide HM).as2 (unhide HC).symm⟩, by simp [intOf]; omega⟩
            | true =>
              have HC := hide (Vec.cells_mergeTo_later hlt he hx)
              rw [hx] at c0
              clear he hx
              by_cases hl : x.t k < y.t k
              · rw [show max (x.t k) (y.t k) = y.t k by omega] at HC
                go_wp2
                go_region
                all_goals go_wp2
                all_goals exact ⟨⟨k + 1, by omega, by go_num, (unhide HM).set2.drew.as2 (unhide HC).symm⟩, by simp [intOf]; omega⟩
              · rw [show max (x.t k) (y.t k) = x.t k by omega] at HC
                have hl : y.t k ≤ x.t k := by omega
                go_wp2
                go_region
                all_goals go_wp2
                all_goals exact ⟨⟨k + 1, by omega, by go_num, (unhide HM).set2.drew.as2 (unhide HC).symm⟩, by simp [intOf]; omega⟩
        · obtain rfl : k = 4 := by omega
          clear hm
          go_wp2_with (first | (refine wpList_load_blk rfl 26 (.tmp 2) rfl (w.heap.size) rfl 26 _ _ ((unhide HM).blk2) Try.underlying26 rfl (by kernel_rfl) ?_) | (refine wpList_store_blk rfl 26 (.tmp 4) (.tmp 55) rfl (w.heap.size + 1 + 1) _ rfl rfl 26 _ (unhide HM).blk0 (by kernel_rfl) rfl (Vec.cells_one _) ?_; intro w2 hbS hgS; have HM2 := hide ((unhide HM).grown0 hbS hgS); clear hbS hgS))
          refine bodyPost_ret (results_cell_row rfl _ _ (w.heap.size + 1 + 1) 26 _ (0, 0) _ rfl (unhide HM2).blk0 Try.underlying26 rfl (by kernel_rfl)) rfl ⟨rfl, (unhide HM2).below⟩
end Go.Proofs.Ytmdjcpghghlpkaa
