/- The walk of VecMerges. -/
import Derived.Test.YtmdjcpghghlpkaaVecRefMerge
import Derived.Test.YtmdjcpghghlpkaaVecMerge
import Derived.Test.YtmdjcpghghlpkaaVecLeq
import Derived.Test.YtmdjcpghghlpkaaVecLawA
namespace Go.Proofs.Ytmdjcpghghlpkaa
open Go.RowKit
set_option linter.unusedVariables false

namespace Vec
theorem merge_h (a b : V) {i : Nat} (hi : i < 4) : (merge a b).h i = if a.ep < b.ep then b.h i else if b.ep < a.ep then a.h i else (a.h i || b.h i) := by
  unfold merge
  by_cases h : a.ep < b.ep
  · rw [if_pos h, if_pos h]
    simp only [mergeTo, if_pos hi, memb]
    rw [if_neg (by rw [plain_ep, plain_ep]; omega), plain_h]
  · rw [if_neg h, if_neg h]
    simp only [mergeTo, if_pos hi, memb]
    by_cases h2 : b.ep < a.ep
    · rw [if_neg (by rw [plain_ep, plain_ep]; omega), if_pos h2, plain_h]
    · rw [if_pos (by rw [plain_ep, plain_ep]; omega), if_neg h2, plain_h, plain_h]
theorem merge_ep (a b : V) : (merge a b).ep = if a.ep < b.ep then b.ep else a.ep := by
  unfold merge
  split <;> rfl
theorem mergeTo4_t (x y : V) {i : Nat} (hi : i < 4) : (mergeTo 4 x y).t i = if memb x y i = true then max (x.t i) (y.t i) else x.t i := by
  simp only [mergeTo]
  by_cases h : memb x y i = true
  · rw [if_pos ⟨hi, h⟩, if_pos h]
  · rw [if_neg (fun z => h z.2), if_neg h]
theorem mergeTo4_h (x y : V) {i : Nat} (hi : i < 4) : (mergeTo 4 x y).h i = memb x y i := by simp only [mergeTo, if_pos hi]
theorem merge_t (a b : V) {i : Nat} (hi : i < 4) : (merge a b).t i = if (merge a b).h i = true then max ((plain a).t i) ((plain b).t i) else 0 := by
  by_cases h : a.ep < b.ep
  · have e : merge a b = mergeTo 4 (plain b) (plain a) := by unfold merge; rw [if_pos h]
    rw [e, mergeTo4_t _ _ hi, mergeTo4_h _ _ hi]
    by_cases hm : memb (plain b) (plain a) i = true
    · rw [if_pos hm, if_pos hm, Int.max_comm]
    · rw [if_neg hm, if_neg hm]
      rw [memb, if_neg (by rw [plain_ep, plain_ep]; omega), plain_h] at hm
      rw [plain_t b hi, if_neg hm]
  · have e : merge a b = mergeTo 4 (plain a) (plain b) := by unfold merge; rw [if_neg h]
    rw [e, mergeTo4_t _ _ hi, mergeTo4_h _ _ hi]
    by_cases hm : memb (plain a) (plain b) i = true
    · rw [if_pos hm, if_pos hm]
    · rw [if_neg hm, if_neg hm, plain_t a hi, if_neg]
      intro ha
      apply hm
      rw [memb, plain_h, plain_h, ha]
      split <;> rfl
theorem merge_comm (a b : V) : cells (merge a b) = cells (merge b a) := by
  have hh : ∀ i, i < 4 → (merge a b).h i = (merge b a).h i := fun i hi => by
    rw [merge_h a b hi, merge_h b a hi]
    by_cases h1 : a.ep < b.ep
    · rw [if_pos h1, if_neg (by omega), if_pos h1]
    · by_cases h2 : b.ep < a.ep
      · rw [if_neg h1, if_pos h2, if_pos h2]
      · rw [if_neg h1, if_neg h2, if_neg h2, if_neg h1, Bool.or_comm]
  refine cells_ext ?_ hh fun i hi => ?_
  · rw [merge_ep, merge_ep]
    split <;> split <;> omega
  · rw [merge_t a b hi, merge_t b a hi, hh i hi]
    split <;> omega
theorem merge_self (a : V) : cells (merge a a) = cells (plain a) := by
  refine cells_ext ?_ (fun i hi => ?_) fun i hi => ?_
  · rw [merge_ep]; simp [plain_ep]
  · rw [merge_h a a hi, if_neg (by omega), if_neg (by omega), Bool.or_self, plain_h]
  · have hh : (merge a a).h i = a.h i := by rw [merge_h a a hi, if_neg (by omega), if_neg (by omega), Bool.or_self]
    rw [merge_t a a hi, hh, plain_t a hi]
    split <;> omega
end Vec

set_option maxHeartbeats 1000000 in
theorem vecMerges_any (a b : Vec.V) (w : World) : Calls Try.prog 5 #[Vec.val a, Vec.val b] w fun e w' => e = .returned (.bool true) ∧ Below w.heap.size w w' := by
  have HA := hide awake_any
  have HMab := hide (fun w => merge_any a b w)
  have HRab := hide (fun w => refMerge_any a b w)
  have HMba : Hid (∀ w, Calls Try.prog 18 #[Vec.val b, Vec.val a] w fun e w' => e = .returned (Vec.val (Vec.merge a b)) ∧ Below w.heap.size w w') := fun w => by
    rw [show Vec.val (Vec.merge a b) = Vec.val (Vec.merge b a) from congrArg Value.agg (Vec.merge_comm a b)]
    exact merge_any b a w
  have HMaa : Hid (∀ w, Calls Try.prog 18 #[Vec.val a, Vec.val a] w fun e w' => e = .returned (Vec.val (Vec.plain a)) ∧ Below w.heap.size w w') := fun w => by
    rw [show Vec.val (Vec.plain a) = Vec.val (Vec.merge a a) from congrArg Value.agg (Vec.merge_self a).symm]
    exact merge_any a a w
  have HP := hide (fun w => plain_any a w)
  have HTa := hide (fun w => told_any a w)
  have HTb := hide (fun w => told_any b w)
  have HTm := hide (fun w => told_any (Vec.merge a b) w)
  have HL := hide (fun w => leq_any a b w)
  have HL2 := hide (fun w => refLeq_any a b w)
  generalize Vec.merge a b = m at HMab HRab HMba HTm
  generalize Vec.plain a = pa at HMaa HP
  generalize Vec.leq a b = l at HL HL2
  have HM0 := hide (((Mem.start w).new (t := 26) (cs := Vec.cells a) w.heap.size rfl).new (t := 26) (cs := Vec.cells b) (w.heap.size + 1) (by simp))
  go_enter Try.func5, Try.ntmps5
  go_wp2_with (first | (refine wpList_load_blk rfl 26 (.tmp 2) rfl (w.heap.size) rfl 26 _ _ ((unhide HM0).blk1) Try.underlying26 rfl (by kernel_rfl) ?_) | (refine wpList_load_blk rfl 26 (.tmp 3) rfl (w.heap.size + 1) rfl 26 _ _ ((unhide HM0).blk0) Try.underlying26 rfl (by kernel_rfl) ?_))
  refine (unhide HMab _).mono ?_; rintro _ w1 ⟨rfl, hb⟩; have HM1 := hide ((unhide HM0).called hb); clear hb
  have HM2 := hide ((unhide HM1).new (t := 26) (cs := Vec.cells Vec.zero) w1.heap.size rfl)
  go_wp2_with (refine wpList_store_blk rfl 26 (.tmp 5) (.tmp 8) rfl (w1.heap.size) _ rfl rfl 26 _ (unhide HM2).blk0 (by kernel_rfl) rfl (Vec.cells_one _) ?_; intro w2 hbS hgS; have HM3 := hide ((unhide HM2).grown0 hbS hgS); clear hbS hgS)
  have hl1 := fun x : SinceW w2.heap.size w2 => Vec.cellsAt ((unhide HM3).called x.h).blk2
  have hl2 := fun x : SinceW w2.heap.size w2 => Vec.cellsAt ((unhide HM3).called x.h).blk1
  have hl3 := fun x : SinceW w2.heap.size w2 => Vec.cellsAt ((unhide HM3).called x.h).blk0
  simp only [Act.put]
  refine wp_region_since (B := w2.heap.size) (by kernel_rfl) (by kernel_rfl) ?_
  repeat (first
    | (go_big_quiet_want; first
        | refine quiet_eql (T := 37) _ _ _ rfl rfl rfl (by kernel_rfl) (fun w => Vec.eqlIn 37 rfl rfl _ w _ rfl) ?_
        | refine quiet_eql (T := 26) _ _ _ rfl rfl rfl (by kernel_rfl) (fun w => Vec.eqlIn 26 rfl rfl _ w _ rfl) ?_
       simp only [Act.put, List.setIfInBounds_toArray, List.set_cons_succ, List.set_cons_zero]; go_big_quiet_on)
    | go_big_quiet_step (first
        | (go_at_call 9; exact calls_since _ (Nat.le_refl _) (unhide HA _))
        | (go_at_call_of 13 (a.ep); exact calls_since _ (Nat.le_refl _) (unhide HTa _))
        | (go_at_call_of 13 (b.ep); exact calls_since _ (Nat.le_refl _) (unhide HTb _))
        | (go_at_call_of 13 (m.ep); exact calls_since _ (Nat.le_refl _) (unhide HTm _))
        | (go_at_call 19; exact calls_since _ (Nat.le_refl _) (unhide HRab _))
        | (go_at_call_of 18 (b.ep); exact calls_since _ (Nat.le_refl _) (unhide HMba _))
        | (go_at_call 18; exact calls_since _ (Nat.le_refl _) (unhide HMaa _))
        | (go_at_call 10; exact calls_since _ (Nat.le_refl _) (unhide HP _))
        | (go_at_call 20; exact calls_since _ (Nat.le_refl _) (unhide HL _))
        | (go_at_call 21; exact calls_since _ (Nat.le_refl _) (unhide HL2 _))))
  refine wpQuiet_nil ?_
  rintro _ ⟨⟨w3, hb⟩, rfl⟩
  have HM4 := hide ((unhide HM3).called hb)
  clear hl1 hl2 hl3 hb
  go_wp2
  go_ret
  exact ⟨rfl, (unhide HM4).below⟩
end Go.Proofs.Ytmdjcpghghlpkaa
