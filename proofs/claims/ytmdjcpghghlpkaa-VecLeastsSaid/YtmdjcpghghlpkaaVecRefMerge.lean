/- The walk of the document's Merge. -/
import Derived.Test.YtmdjcpghghlpkaaVecRef
namespace Go.Proofs.Ytmdjcpghghlpkaa
open Go.RowKit
set_option linter.unusedVariables false

namespace Vec
def refOut (k : Nat) (e : Int) (H M : Nat → Bool) (m : Nat → Int) : V := { ep := e, h := fun i => if i < k then M i else H i, t := fun i => if i < k ∧ M i = true then m i else 0 }
theorem setT_setT (v : V) (k : Nat) (x y : Int) : setT (setT v k x) k y = setT v k y := by
  unfold setT
  simp only [V.mk.injEq, true_and]
  funext i
  split <;> rfl
theorem refOut_in_h {k : Nat} {e : Int} {H M : Nat → Bool} {m : Nat → Int} (hM : M k = true) : cells (refOut (k + 1) e H M m) = cells (setT (setH (refOut k e H M m) k true) k (m k)) := by
  refine cells_ext rfl (fun i _ => ?_) fun i _ => ?_
  · simp only [refOut, setT, setH]
    by_cases hi : i = k
    · subst hi; rw [if_pos (by omega), if_pos rfl, hM]
    · have : i < k + 1 ↔ i < k := by omega
      simp only [this, if_neg hi]
  · simp only [refOut, setT, setH]
    by_cases hi : i = k
    · subst hi; rw [if_pos ⟨by omega, hM⟩, if_pos rfl]
    · have : i < k + 1 ↔ i < k := by omega
      simp only [this, if_neg hi]
theorem refOut_in {k : Nat} {e : Int} {H M : Nat → Bool} {m : Nat → Int} (hM : M k = true) (hH : H k = true) : cells (refOut (k + 1) e H M m) = cells (setT (refOut k e H M m) k (m k)) := by
  rw [refOut_in_h hM]
  refine cells_ext rfl (fun i _ => ?_) fun i _ => rfl
  simp only [refOut, setT, setH]
  by_cases hi : i = k
  · subst hi; rw [if_pos rfl, if_neg (by omega), hH]
  · simp only [if_neg hi]
theorem refOut_out {k : Nat} {e : Int} {H M : Nat → Bool} {m : Nat → Int} (hM : M k = false) (hH : H k = false) : cells (refOut (k + 1) e H M m) = cells (refOut k e H M m) := by
  refine cells_ext rfl (fun i _ => ?_) fun i _ => ?_
  · simp only [refOut]
    by_cases hi : i = k
    · subst hi; rw [if_pos (by omega), if_neg (by omega), hM, hH]
    · have : i < k + 1 ↔ i < k := by omega
      simp only [this]
  · simp only [refOut]
    by_cases hi : i = k
    · subst hi; rw [if_neg (by rw [hM]; simp), if_neg (by omega)]
    · have : i < k + 1 ↔ i < k := by omega
      simp only [this]
theorem refOut_h (k : Nat) (e : Int) (H M : Nat → Bool) (m : Nat → Int) : (refOut k e H M m).h k = H k := by simp [refOut]
theorem cells_zero_refOut (e : Int) (H M : Nat → Bool) (m : Nat → Int) : cells (refOut 0 e H M m) = #[.int .i64 e, .bool (H 0), .bool (H 1), .bool (H 2), .bool (H 3), .int .u64 0, .int .u64 0, .int .u64 0, .int .u64 0] := by
  simp [cells, refOut]
theorem plain_out {v : V} {i : Nat} (hi : i < 4) (h : v.h i = false) : (plain v).t i = 0 := by rw [plain_t v hi, h]; rfl
theorem cells_refMerge_later (a b : V) (h : a.ep < b.ep) : cells (refOut 4 b.ep b.h (fun i => b.h i || (a.ep == b.ep && b.h i)) (fun i => max ((plain a).t i) ((plain b).t i))) = cells (merge a b) := by
  unfold merge
  rw [if_pos h]
  have hne : (a.ep == b.ep) = false := beq_eq_false_iff_ne.2 (by omega)
  have hm : ∀ i, memb (plain b) (plain a) i = b.h i := fun i => by rw [memb, if_neg (by rw [plain_ep, plain_ep]; omega), plain_h]
  refine cells_ext rfl (fun i hi => ?_) fun i hi => ?_
  · simp [refOut, mergeTo, hm, hi, hne]
  · simp only [refOut, mergeTo, hm, hne, Bool.false_and, Bool.or_false]
    by_cases hb : b.h i = true
    · rw [if_pos ⟨hi, hb⟩, if_pos ⟨hi, hb⟩]; omega
    · rw [if_neg (fun x => hb x.2), if_neg (fun x => hb x.2), plain_out hi (by simpa using hb)]
theorem cells_refMerge_else (a b : V) (h : b.ep ≤ a.ep) : cells (refOut 4 a.ep a.h (fun i => a.h i || (a.ep == b.ep && b.h i)) (fun i => max ((plain a).t i) ((plain b).t i))) = cells (merge a b) := by
  unfold merge
  rw [if_neg (by omega)]
  have hm : ∀ i, memb (plain a) (plain b) i = (a.h i || (a.ep == b.ep && b.h i)) := fun i => by
    rw [memb, plain_ep, plain_ep, plain_h, plain_h]
    by_cases e : a.ep = b.ep
    · rw [if_pos e, beq_iff_eq.2 e]; simp
    · rw [if_neg e, beq_eq_false_iff_ne.2 e]; simp
  refine cells_ext rfl (fun i hi => ?_) fun i hi => ?_
  · simp only [refOut, mergeTo, hm, if_pos hi]
  · simp only [refOut, mergeTo, hm]
    by_cases hb : (a.h i || (a.ep == b.ep && b.h i)) = true
    · rw [if_pos ⟨hi, hb⟩, if_pos ⟨hi, hb⟩]
    · rw [if_neg (fun x => hb x.2), if_neg (fun x => hb x.2), plain_out hi]
      cases ha : a.h i with
      | false => rfl
      | true => rw [ha] at hb; simp at hb
end Vec

set_option maxHeartbeats 2000000 in
theorem refMerge_any (a b : Vec.V) (w : World) :
    Calls Try.prog 19 #[Vec.val a, Vec.val b] w fun e w' => e = .returned (Vec.val (Vec.merge a b)) ∧ Below w.heap.size w w' := by
  have HM := hide ((((Mem.start w).new (t := 37) (cs := Vec.cells a) w.heap.size rfl).new (t := 37) (cs := Vec.cells b) (w.heap.size + 1) (by simp)).new (t := 37) (cs := Vec.cells Vec.zero) (w.heap.size + 1 + 1) (by simp))
  have HA := hide (fun w => refPlain_any a w)
  have HB := hide (fun w => refPlain_any b w)
  have e1 : (Vec.plain a).ep = a.ep := rfl
  have e2 : (Vec.plain b).ep = b.ep := rfl
  have h1 : (Vec.plain a).h = a.h := rfl
  have h2 : (Vec.plain b).h = b.h := rfl
  obtain ⟨e, H, hEH, hG⟩ : ∃ e H, ((a.ep < b.ep ∧ e = b.ep ∧ H = b.h) ∨ (b.ep ≤ a.ep ∧ e = a.ep ∧ H = a.h)) ∧
      Vec.cells (Vec.merge a b) = Vec.cells (Vec.refOut 4 e H (fun i => H i || (a.ep == b.ep && b.h i)) (fun i => max ((Vec.plain a).t i) ((Vec.plain b).t i))) := by
    by_cases h : a.ep < b.ep
    · exact ⟨b.ep, b.h, .inl ⟨h, rfl, rfl⟩, (Vec.cells_refMerge_later a b h).symm⟩
    · exact ⟨a.ep, a.h, .inr ⟨by omega, rfl, rfl⟩, (Vec.cells_refMerge_else a b (by omega)).symm⟩
  rw [show Vec.val (Vec.merge a b) = .agg (Vec.cells (Vec.refOut 4 e H (fun i => H i || (a.ep == b.ep && b.h i)) (fun i => max ((Vec.plain a).t i) ((Vec.plain b).t i)))) from congrArg Value.agg hG]
  clear hG
  rw [← h1, ← e1, ← e2, ← h2] at hEH
  rw [← h2, ← e1, ← e2]
  clear e1 e2 h1 h2
  generalize Vec.plain a = pa at HA hEH ⊢
  generalize Vec.plain b = pb at HB hEH ⊢
  have HOR := hide hEH
  clear hEH
  generalize hMd : (fun i => H i || (pa.ep == pb.ep && pb.h i)) = M
  generalize hmd : (fun i => max (pa.t i) (pb.t i)) = m
  have HMd : Hid (∀ i, M i = (H i || (pa.ep == pb.ep && pb.h i))) := fun i => by rw [← hMd]
  have Hmd : Hid (∀ i, m i = max (pa.t i) (pb.t i)) := fun i => by rw [← hmd]
  clear hMd hmd
  go_enter Try.func19, Try.ntmps19
  go_wp2_with (refine wpList_load_blk rfl 37 (.tmp 2) rfl (w.heap.size) rfl 37 _ _ ((unhide HM).blk2) Try.underlying37 rfl (by kernel_rfl) ?_)
  refine (unhide HA _).mono ?_; rintro _ w1 ⟨rfl, hb⟩; have HM1 := hide ((unhide HM).called hb); clear hb
  go_wp2_with (first | (refine wpList_store_blk rfl 37 (.tmp 2) (.tmp 8) rfl (w.heap.size) _ rfl rfl 37 _ (unhide HM1).blk2 (by kernel_rfl) rfl (Vec.cells_one _) ?_; intro w2 hbS hgS; have HM2 := hide ((unhide HM1).grown2 hbS hgS); clear hbS hgS) | (refine wpList_load_blk rfl 37 (.tmp 3) rfl (w.heap.size + 1) rfl 37 _ _ ((unhide HM2).blk1) Try.underlying37 rfl (by kernel_rfl) ?_))
  refine (unhide HB _).mono ?_; rintro _ w3 ⟨rfl, hb⟩; have HM3 := hide ((unhide HM2).called hb); clear hb
  go_upto_if 20 with (first | (refine wpList_store_blk rfl 37 (.tmp 3) (.tmp 10) rfl (w.heap.size + 1) _ rfl rfl 37 _ (unhide HM3).blk1 (by kernel_rfl) rfl (Vec.cells_one _) ?_; intro w4 hbS hgS; have HM4 := hide ((unhide HM3).grown1 hbS hgS); clear hbS hgS; have fa := Vec.cellsAt (unhide HM4).blk2; have fb := Vec.cellsAt (unhide HM4).blk1; have fl1 := (unhide HM4).blk1.lt; have fl2 := (unhide HM4).blk2.lt))
  go_cut [6] (fun s6 wx => Mem w wx [(w4.heap.size, 37, Vec.cells (Vec.refOut 0 e H M m)), (w.heap.size + 1 + 1, 37, Vec.cells Vec.zero), (w.heap.size + 1, 37, Vec.cells pb), (w.heap.size, 37, Vec.cells pa)])
  case first =>
    rcases unhide HOR with ⟨h, rfl, rfl⟩ | ⟨h, rfl, rfl⟩
    all_goals
      go_wp2
      all_goals go_meet
      exact ((unhide HM4).new w4.heap.size rfl).as0 (Vec.cells_zero_refOut _ _ _ _).symm
  case rest =>
    have HM5 := hide hcut
    clear hcut fa fb fl1 fl2 HM4 HM3 HM2 HM1 HM HA HB HOR
    go_wp2
    go_loopw [6] (fun i wr => ∃ k : Nat, k ≤ 4 ∧ i = .int .i64 k ∧ Mem w wr [(w4.heap.size, 37, Vec.cells (Vec.refOut k e H M m)), (w.heap.size + 1 + 1, 37, Vec.cells Vec.zero), (w.heap.size + 1, 37, Vec.cells pb), (w.heap.size, 37, Vec.cells pa)]) (fun i _ => 4 - (intOf i).toNat)
    case atStart => exact ⟨0, by omega, rfl, unhide HM5⟩
    case round =>
      clear HM5
      obtain ⟨k, hk, rfl, hm⟩ := hrel
      have HM := hide hm
      by_cases hlt : k < 4
      · have e1 := Vec.atE hm.blk3
        have e2 := Vec.atE hm.blk2
        have c1 := Vec.atH hm.blk2 hlt
        have c2 := Vec.atT hm.blk3 hlt
        have c3 := Vec.atT hm.blk2 hlt
        have c4 := hm.blk0.cell (1 + k)
        have c5 := hm.blk0.cell (5 + k)
        have f0 := hm.blk0.frozen (1 + k)
        have f1 := hm.blk0.frozen (5 + k)
        rw [Vec.cells_has _ hlt, Vec.refOut_h] at c4
        rw [Vec.cells_time _ hlt] at c5
        have l1 : w4.heap.size ≠ w.heap.size := by
          have := hm.apart
          simp at this
          omega
        have l2 : w4.heap.size ≠ w.heap.size + 1 := by
          have := hm.apart
          simp at this
          omega
        clear hm
        by_cases hset : (pa.ep == pb.ep) = true ∧ pb.h k = true
        · have hM : M k = true := by rw [unhide HMd]; simp only [hset.1, hset.2, Bool.and_self, Bool.or_true]
          have HC := hide (Vec.refOut_in_h (e := e) (H := H) (m := m) hM)
          have fe := hset.1
          rw [hset.2] at c1
          clear hM hset
          by_cases hl : pa.t k < pb.t k
          · rw [show m k = pb.t k by rw [unhide Hmd]; omega] at HC
            have HC2 := hide (congrArg Vec.cells (Vec.setT_setT (Vec.setH (Vec.refOut k e H M m) k true) k (pa.t k) (pb.t k)))
            go_wp2
            go_quiet (fail)
            go_wp2
            exact ⟨⟨k + 1, by omega, by go_num, ((((unhide HM).set0.set0.drewN _).set0).as0 (by rw [unhide HC, ← unhide HC2, ← Vec.cells_setT _ _ hlt, ← Vec.cells_setT _ _ hlt, ← Vec.cells_setH _ _ hlt]))⟩, by simp [intOf]; omega⟩
          · rw [show m k = pa.t k by rw [unhide Hmd]; omega] at HC
            have fd : decide (pa.t k < pb.t k) = false := decide_eq_false hl
            clear hl
            go_wp2
            go_quiet (fail)
            go_wp2
            exact ⟨⟨k + 1, by omega, by go_num, (((unhide HM).set0.set0.drewN _).as0 (by rw [unhide HC, ← Vec.cells_setT _ _ hlt, ← Vec.cells_setH _ _ hlt]))⟩, by simp [intOf]; omega⟩
        · cases hH : H k with
          | false =>
            have hM : M k = false := by
              rw [unhide HMd]
              simp only [hH, Bool.false_or]
              cases h1 : (pa.ep == pb.ep) with
              | false => rfl
              | true =>
                cases h2 : pb.h k with
                | false => rfl
                | true => exact absurd ⟨h1, h2⟩ hset
            have HC := hide (Vec.refOut_out (e := e) (m := m) hM hH)
            rw [hH] at c4
            cases fe : (pa.ep == pb.ep) with
            | false =>
              clear hM hset hH
              go_wp2
              exact ⟨⟨k + 1, by omega, by go_num, (unhide HM).as0 (unhide HC).symm⟩, by simp [intOf]; omega⟩
            | true =>
              have h2 : pb.h k = false := by
                cases h2 : pb.h k with
                | false => rfl
                | true => exact absurd ⟨fe, h2⟩ hset
              rw [h2] at c1
              clear hM hset hH h2
              go_wp2
              exact ⟨⟨k + 1, by omega, by go_num, (unhide HM).as0 (unhide HC).symm⟩, by simp [intOf]; omega⟩
          | true =>
            have hM : M k = true := by rw [unhide HMd]; simp only [hH, Bool.true_or]
            have HC := hide (Vec.refOut_in (e := e) (m := m) hM hH)
            rw [hH] at c4
            clear hM hH
            rcases (show (pa.ep == pb.ep) = false ∨ ((pa.ep == pb.ep) = true ∧ pb.h k = false) by
              cases h1 : (pa.ep == pb.ep) with
              | false => exact .inl rfl
              | true =>
                cases h2 : pb.h k with
                | false => exact .inr ⟨rfl, rfl⟩
                | true => exact absurd ⟨h1, h2⟩ hset) with fe | ⟨fe, h2⟩
            · clear hset
              by_cases hl : pa.t k < pb.t k
              · rw [show m k = pb.t k by rw [unhide Hmd]; omega] at HC
                have HC2 := hide (congrArg Vec.cells (Vec.setT_setT (Vec.refOut k e H M m) k (pa.t k) (pb.t k)))
                go_wp2
                go_quiet (fail)
                go_wp2
                exact ⟨⟨k + 1, by omega, by go_num, ((((unhide HM).set0.drewN _).set0).as0 (by rw [unhide HC, ← unhide HC2, ← Vec.cells_setT _ _ hlt, ← Vec.cells_setT _ _ hlt]))⟩, by simp [intOf]; omega⟩
              · rw [show m k = pa.t k by rw [unhide Hmd]; omega] at HC
                have fd : decide (pa.t k < pb.t k) = false := decide_eq_false hl
                clear hl
                go_wp2
                go_quiet (fail)
                go_wp2
                exact ⟨⟨k + 1, by omega, by go_num, (((unhide HM).set0.drewN _).as0 (by rw [unhide HC, ← Vec.cells_setT _ _ hlt]))⟩, by simp [intOf]; omega⟩
            · rw [h2] at c1
              clear hset h2
              by_cases hl : pa.t k < pb.t k
              · rw [show m k = pb.t k by rw [unhide Hmd]; omega] at HC
                have HC2 := hide (congrArg Vec.cells (Vec.setT_setT (Vec.refOut k e H M m) k (pa.t k) (pb.t k)))
                go_wp2
                go_quiet (fail)
                go_wp2
                exact ⟨⟨k + 1, by omega, by go_num, ((((unhide HM).set0.drewN _).set0).as0 (by rw [unhide HC, ← unhide HC2, ← Vec.cells_setT _ _ hlt, ← Vec.cells_setT _ _ hlt]))⟩, by simp [intOf]; omega⟩
              · rw [show m k = pa.t k by rw [unhide Hmd]; omega] at HC
                have fd : decide (pa.t k < pb.t k) = false := decide_eq_false hl
                clear hl
                go_wp2
                go_quiet (fail)
                go_wp2
                exact ⟨⟨k + 1, by omega, by go_num, (((unhide HM).set0.drewN _).as0 (by rw [unhide HC, ← Vec.cells_setT _ _ hlt]))⟩, by simp [intOf]; omega⟩
      · obtain rfl : k = 4 := by omega
        clear hm
        go_wp2_with (first | (refine wpList_load_blk rfl 37 (.tmp 5) rfl (w4.heap.size) rfl 37 _ _ ((unhide HM).blk0) Try.underlying37 rfl (by kernel_rfl) ?_) | (refine wpList_store_blk rfl 37 (.tmp 4) (.tmp 71) rfl (w.heap.size + 1 + 1) _ rfl rfl 37 _ (unhide HM).blk1 (by kernel_rfl) rfl (Vec.cells_one _) ?_; intro w5 hbS hgS; have HM2 := hide ((unhide HM).grown1 hbS hgS); clear hbS hgS))
        refine bodyPost_ret (results_cell_row rfl _ _ (w.heap.size + 1 + 1) 37 _ (0, 0) _ rfl (unhide HM2).blk1 Try.underlying37 rfl (by kernel_rfl)) rfl ⟨rfl, (unhide HM2).below⟩
end Go.Proofs.Ytmdjcpghghlpkaa
