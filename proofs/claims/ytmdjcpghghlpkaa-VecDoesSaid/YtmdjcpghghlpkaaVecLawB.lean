/- The walk of VecDoes. -/
import Derived.Test.YtmdjcpghghlpkaaVecRef
import Derived.Test.YtmdjcpghghlpkaaVecLawA
import Derived.Deep.RegionHeld3
namespace Go.Proofs.Ytmdjcpghghlpkaa
open Go.RowKit
set_option linter.unusedVariables false

/-- the cells of a fresh vector can be written -/
theorem Vec.frozenAt {w : World} {g : Nat} {t : TypeId} {cs : Array Value} (h : Blk w g t cs) :
    w.frozen? ⟨g, 0, none⟩ = false ∧ w.frozen? ⟨g, 1, none⟩ = false ∧ w.frozen? ⟨g, 2, none⟩ = false ∧ w.frozen? ⟨g, 3, none⟩ = false ∧ w.frozen? ⟨g, 4, none⟩ = false ∧
    w.frozen? ⟨g, 5, none⟩ = false ∧ w.frozen? ⟨g, 6, none⟩ = false ∧ w.frozen? ⟨g, 7, none⟩ = false ∧ w.frozen? ⟨g, 8, none⟩ = false :=
  ⟨h.frozen 0, h.frozen 1, h.frozen 2, h.frozen 3, h.frozen 4, h.frozen 5, h.frozen 6, h.frozen 7, h.frozen 8⟩
theorem Vec.setAll (u : Vec.V) : (((((((((Vec.cells Vec.zero).setIfInBounds 0 (.int .i64 u.ep)).setIfInBounds 1 (.bool (u.h 0))).setIfInBounds 2 (.bool (u.h 1))).setIfInBounds 3 (.bool (u.h 2))).setIfInBounds 4 (.bool (u.h 3))).setIfInBounds 5 (.int .u64 (u.t 0))).setIfInBounds 6 (.int .u64 (u.t 1))).setIfInBounds 7 (.int .u64 (u.t 2))).setIfInBounds 8 (.int .u64 (u.t 3)) = Vec.cells u := by
  simp [Vec.cells]
theorem Vec.eql_has (h : Nat → Bool) (w : World) : (Op.equalIn 10000 22 (.agg (Vec.hasCells h)) (.agg (Vec.hasCells h))).run Try.prog w = .ok true w := by
  have := run_equalIn_four_bool (P := Try.prog) (w := w) 9998 22 4 h h Try.underlying22 Try.underlying4 rfl
  unfold Vec.hasCells
  simpa using this
theorem Vec.eql_nought (w : World) : (Op.equalIn 10000 24 (.agg #[.int .u64 0, .int .u64 0, .int .u64 0, .int .u64 0]) (.agg #[.int .u64 0, .int .u64 0, .int .u64 0, .int .u64 0])).run Try.prog w = .ok true w := by
  have := run_equalIn_four_int (P := Try.prog) (w := w) 9998 24 23 .u64 (fun _ => 0) (fun _ => 0) Try.underlying24 Try.underlying23 rfl
  simpa using this
theorem Vec.hasAt {w : World} {g : Nat} {t : TypeId} {h : Nat → Bool} (hb : Blk w g t (Vec.hasCells h)) :
    w.cell? ⟨g, 0, none⟩ = some (.bool (h 0)) ∧ w.cell? ⟨g, 1, none⟩ = some (.bool (h 1)) ∧ w.cell? ⟨g, 2, none⟩ = some (.bool (h 2)) ∧ w.cell? ⟨g, 3, none⟩ = some (.bool (h 3)) :=
  ⟨hb.cell 0, hb.cell 1, hb.cell 2, hb.cell 3⟩

set_option maxHeartbeats 1000000 in

set_option maxRecDepth 20000 in
theorem vecDoes_any (v : Vec.V) (dc t ep : Int) (has : Nat → Bool) (w : World) : Calls Try.prog 4 #[Vec.val v, .int .i64 dc, .int .u64 t, .int .i64 ep, .agg (Vec.hasCells has)] w fun e w' => e = .returned (.bool true) ∧ Below w.heap.size w w' := by
  have HA := hide awake_any
  have HL := hide (fun w => least_any v w)
  have HL2 := hide (fun w => refLeast_any v w)
  have HT := hide (fun w => told_any v w)
  have HZ := hide (fun w => resize_any v ep has w)
  have HZ2 := hide (fun w => refResize_any v ep has w)
  generalize Vec.least v = m at HL HL2
  obtain ⟨a, is⟩ := m
  generalize Vec.resize v ep has = u at HZ HZ2
  obtain ⟨u, e⟩ := u
  simp only at HL HL2 HZ HZ2
  have HM0 := hide (((Mem.start w).new (t := 26) (cs := Vec.cells v) w.heap.size rfl).new (t := 22) (cs := Vec.hasCells has) (w.heap.size + 1) (by simp))
  go_enter Try.func4, Try.ntmps4
  go_wp2_with (refine wpList_load_blk rfl 26 (.tmp 5) rfl (w.heap.size) rfl 26 _ _ ((unhide HM0).blk1) Try.underlying26 rfl (by kernel_rfl) ?_)
  refine (unhide HL _).mono ?_; rintro _ w1 ⟨rfl, hb⟩; have HM1 := hide ((unhide HM0).called hb); clear hb
  go_wp2_with (refine wpList_load_blk rfl 26 (.tmp 5) rfl (w.heap.size) rfl 26 _ _ ((unhide HM1).blk1) Try.underlying26 rfl (by kernel_rfl) ?_)
  refine (unhide HT _).mono ?_; rintro _ w2 ⟨rfl, hb⟩; have HM2 := hide ((unhide HM1).called hb); clear hb
  go_wp2_with fail
  refine (unhide HL2 _).mono ?_; rintro _ w3 ⟨rfl, hb⟩; have HM3 := hide ((unhide HM2).called hb); clear hb
  go_wp2_with (first | (refine wpList_load_blk rfl 26 (.tmp 5) rfl (w.heap.size) rfl 26 _ _ ((unhide HM3).blk1) Try.underlying26 rfl (by kernel_rfl) ?_) | (refine wpList_load_blk rfl 22 (.tmp 9) rfl (w.heap.size + 1) rfl 22 _ _ ((unhide HM3).blk0) Try.underlying22 rfl (by kernel_rfl) ?_))
  refine (unhide HZ _).mono ?_; rintro _ w4 ⟨rfl, hb⟩; have HM4 := hide ((unhide HM3).called hb); clear hb
  have HM5 := hide ((unhide HM4).new (t := 26) (cs := Vec.cells Vec.zero) w4.heap.size rfl)
  clear HM0 HM1 HM2 HM3 HM4
  go_wp2_with (refine wpList_store_blk rfl 26 (.tmp 15) (.tmp 36) rfl (w4.heap.size) _ rfl rfl 26 _ (unhide HM5).blk0 (by kernel_rfl) rfl (Vec.cells_one _) ?_; intro w5 hbS hgS; have HM6 := hide ((unhide HM5).grown0 hbS hgS); clear hbS hgS)
  clear HM5
  go_cut [17, 18] (fun s17 s18 wx => s18 = .int .i64 e ∧ ∃ g, s17 = .pointer (some ⟨g, 0, none⟩) ∧ Mem w wx [(g, 37, Vec.cells u), (w4.heap.size, 26, Vec.cells u), (w.heap.size + 1, 22, Vec.hasCells has), (w.heap.size, 26, Vec.cells v)])
  case first =>
    have hc1 := fun (wx : World) (h : Mem w wx [(w4.heap.size, 26, Vec.cells u), (w.heap.size + 1, 22, Vec.hasCells has), (w.heap.size, 26, Vec.cells v)]) => Vec.cellsAt h.blk2
    have hc2 := fun (wx : World) (h : Mem w wx [(w4.heap.size, 26, Vec.cells u), (w.heap.size + 1, 22, Vec.hasCells has), (w.heap.size, 26, Vec.cells v)]) => Vec.hasAt h.blk1
    have HT2 : Hid (∀ w, Calls Try.prog 13 #[Vec.val v] w fun e w' => e = .returned (.agg #[.int .i64 v.ep, .bool (v.h 0), .bool (v.h 1), .bool (v.h 2), .bool (v.h 3), .int .u64 (v.t 0), .int .u64 (v.t 1), .int .u64 (v.t 2), .int .u64 (v.t 3)]) ∧ Below w.heap.size w w') := HT
    have HZ3 : Hid (∀ w, Calls Try.prog 14 #[Vec.val v, .int .i64 ep, .agg (Vec.hasCells has)] w fun e_1 w' => e_1 = .returned (.tuple #[.agg #[.int .i64 u.ep, .bool (u.h 0), .bool (u.h 1), .bool (u.h 2), .bool (u.h 3), .int .u64 (u.t 0), .int .u64 (u.t 1), .int .u64 (u.t 2), .int .u64 (u.t 3)], .int .i64 e]) ∧ Below w.heap.size w w') := HZ2
    go_region_held3 (fun wx => Mem w wx [(w4.heap.size, 26, Vec.cells u), (w.heap.size + 1, 22, Vec.hasCells has), (w.heap.size, 26, Vec.cells v)])
      (first | with_reducible exact (unhide HM6).drew | with_reducible exact ((unhide HM6).other _).drew | with_reducible exact unhide HM7 | with_reducible exact (unhide HM7).other _ | with_reducible exact unhide HM8 | with_reducible exact (unhide HM8).other _ | with_reducible exact (unhide HB2).set0.set0.set0.set0.set0.set0.set0.set0.set0.tail | fail)
      (first
        | (go_at_call 13; refine (unhide HT2 _).mono ?_; rintro _ w6 ⟨rfl, hb6⟩;
           first
             | (have HB := hide (((unhide HM6).new (t := 37) (cs := Vec.cells Vec.zero) w5.heap.size rfl).drew.called hb6); have HM7 := hide (unhide HB).tail; clear hb6)
             | (have HM7 := hide ((unhide HM6).drew.called hb6); clear hb6))
        | (go_at_call 14; refine (unhide HZ3 _).mono ?_; rintro _ w7 ⟨rfl, hb7⟩;
           first
             | (have HB2 := hide ((unhide HB).called hb7); have HM8 := hide (unhide HB2).tail; have fc := Vec.cellsAt (unhide HB2).blk0; have ff := Vec.frozenAt (unhide HB2).blk0; clear hb7)
             | (have HB2 := hide (((unhide HM7).new (t := 37) (cs := Vec.cells Vec.zero) w6.heap.size rfl).called hb7); have HM8 := hide (unhide HB2).tail; have fc := Vec.cellsAt (unhide HB2).blk0; have ff := Vec.frozenAt (unhide HB2).blk0; clear hb7)
             | (have HM8 := hide ((unhide HM7).called hb7); clear hb7)))
    all_goals go_wp2_with fail
    all_goals go_meet
    · exact ⟨rfl, w7.heap.size, rfl, (unhide HM8).new (cs := Vec.cells u) w7.heap.size rfl⟩
    all_goals exact ⟨rfl, _, rfl, (unhide HB2).set0.set0.set0.set0.set0.set0.set0.set0.set0.as0 (Vec.setAll u)⟩
  case rest =>
    obtain ⟨rfl, g, rfl, hm⟩ := hcut
    have HM7 := hide hm
    clear hm HM6
    have HTu := hide (fun w => told_any u w)
    go_wp2_with fail
    have hl1 := fun x : SinceW wc.heap.size wc => Vec.cellsAt ((unhide HM7).called x.h).blk1
    have hl2 := fun x : SinceW wc.heap.size wc => Vec.cellsAt ((unhide HM7).called x.h).blk0
    refine wp_region_since (B := wc.heap.size) (by kernel_rfl) (by kernel_rfl) ?_
    repeat (first
      | (go_big_quiet_want; refine quiet_neq _ _ _ rfl rfl rfl (by kernel_rfl) (fun w => Vec.eqlIn 37 rfl rfl u w _ rfl) ?_; simp only [Act.put, List.setIfInBounds_toArray, List.set_cons_succ, List.set_cons_zero, Bool.not_true]; go_big_quiet_on)
      | go_big_quiet_step (exact calls_since _ (Nat.le_refl _) (unhide HTu _)))
    refine wpQuiet_nil ?_
    rintro _ ⟨⟨w8, hb⟩, rfl⟩
    have HM8 := hide ((unhide HM7).called hb)
    clear hl1 hl2 hb
    have HN := hide (fun w => new_any ep has w)
    go_wp2_with (refine wpList_load_blk rfl 22 (.tmp 9) rfl (w.heap.size + 1) rfl 22 _ _ ((unhide HM8).blk2) Try.underlying22 rfl (by kernel_rfl) ?_)
    refine (unhide HN _).mono ?_; rintro _ w9 ⟨rfl, hb⟩; have HM9 := hide ((unhide HM8).called hb); clear hb
    have HM10 := hide ((unhide HM9).new (t := 26) (cs := Vec.cells Vec.zero) w9.heap.size rfl)
    go_wp2_with (refine wpList_store_blk rfl 26 (.tmp 19) (.tmp 67) rfl (w9.heap.size) _ rfl rfl 26 _ (unhide HM10).blk0 (by kernel_rfl) rfl (Vec.cells_one _) ?_; intro w10 hbS hgS; have HM11 := hide ((unhide HM10).grown0 hbS hgS); clear hbS hgS)
    have HP := hide (fun w => plain_any v w)
    have HP2 := hide (fun w => refPlain_any v w)
    have HR := hide (fun w => raise_any v dc t w)
    have HR2 := hide (fun w => refRaise_any v dc t w)
    have HTP := hide (fun w => told_any (Vec.plain v) w)
    have HTR := hide (fun w => told_any (Vec.raise v dc t) w)
    have hl1 := fun x : SinceW w10.heap.size w10 => Vec.cellsAt ((unhide HM11).called x.h).blk4
    have hl2 := fun x : SinceW w10.heap.size w10 => Vec.hasAt ((unhide HM11).called x.h).blk3
    have hl3 := fun x : SinceW w10.heap.size w10 => Vec.cellsAt ((unhide HM11).called x.h).blk0
    go_wp2_with fail
    refine wp_region_since (B := w10.heap.size) (by kernel_rfl) (by kernel_rfl) ?_
    repeat (first
      | (go_big_quiet_want; first
          | refine quiet_eql (T := 37) _ _ _ rfl rfl rfl (by kernel_rfl) (fun w => Vec.eqlIn 37 rfl rfl _ w _ rfl) ?_
          | refine quiet_eql (T := 22) _ _ _ rfl rfl rfl (by kernel_rfl) (fun w => Vec.eql_has has w) ?_
          | refine quiet_eql (T := 24) _ _ _ rfl rfl rfl (by kernel_rfl) (fun w => Vec.eql_nought w) ?_
         simp only [Act.put, List.setIfInBounds_toArray, List.set_cons_succ, List.set_cons_zero]; go_big_quiet_on)
      | go_big_quiet_step (first
          | exact calls_since _ (Nat.le_refl _) (unhide HA _)
          | exact calls_since _ (Nat.le_refl _) (unhide HP _)
          | exact calls_since _ (Nat.le_refl _) (unhide HP2 _)
          | exact calls_since _ (Nat.le_refl _) (unhide HR _)
          | exact calls_since _ (Nat.le_refl _) (unhide HR2 _)
          | with_reducible exact calls_since _ (Nat.le_refl _) (unhide HTP _)
          | with_reducible exact calls_since _ (Nat.le_refl _) (unhide HTR _)
          | exact calls_since _ (Nat.le_refl _) (unhide HT _)))
    refine wpQuiet_nil ?_
    rintro _ ⟨⟨w12, hb⟩, rfl⟩
    have HM12 := hide ((unhide HM11).called hb)
    clear hl1 hl2 hl3 hb
    go_wp2
    go_ret
    exact ⟨rfl, (unhide HM12).below⟩
end Go.Proofs.Ytmdjcpghghlpkaa
