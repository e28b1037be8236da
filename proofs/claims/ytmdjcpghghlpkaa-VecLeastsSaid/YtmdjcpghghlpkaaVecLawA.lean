/- The walk of VecRises. -/
import Derived.Test.YtmdjcpghghlpkaaVecOpen
import Derived.Test.YtmdjcpghghlpkaaVecMath2
namespace Go.Proofs.Ytmdjcpghghlpkaa
open Go.RowKit
set_option linter.unusedVariables false

theorem awake_any (w : World) : Calls Try.prog 9 #[] w fun e w' => e = .returned (.bool true) ∧ Below w.heap.size w w' := by
  have H := hide (fun w => least_any ⟨0, four false true true false false, four 0 5 3 0 0⟩ w)
  have e : Vec.least ⟨0, four false true true false false, four 0 5 3 0 0⟩ = (3, true) := by decide
  rw [e] at H
  clear e
  go_enter Try.func9, Try.ntmps9
  go_wp2_with fail
  refine (unhide H _).mono ?_
  rintro e w1 ⟨rfl, hb⟩
  go_wp2
  go_ret
  exact ⟨rfl, hb⟩

theorem Vec.has_at (h : Nat → Bool) {d : Nat} (hd : d < 4) : (Vec.hasCells h)[d]? = some (.bool (h d)) := by
  have h4 : d = 0 ∨ d = 1 ∨ d = 2 ∨ d = 3 := by omega
  rcases h4 with rfl | rfl | rfl | rfl <;> rfl
theorem Vec.has_without (h : Nat → Bool) {d : Nat} (hd : d < 4) : (Vec.hasCells h).setIfInBounds d (.bool false) = Vec.hasCells (Vec.without h d) := by
  have h4 : d = 0 ∨ d = 1 ∨ d = 2 ∨ d = 3 := by omega
  rcases h4 with rfl | rfl | rfl | rfl <;> simp [Vec.hasCells, Vec.without]

set_option maxHeartbeats 1000000 in
theorem vecRises_none (v : Vec.V) (dc t ep : Int) (w : World) (hout : dc < 0 ∨ 3 < dc ∨ ∃ d : Nat, dc = d ∧ d < 4 ∧ v.h d = false) :
    Calls Try.prog 3 #[Vec.val v, .int .i64 dc, .int .u64 t, .int .i64 ep] w fun e w' => e = .returned (.bool true) ∧ Below w.heap.size w w' := by
  have HL := hide (fun w => least_any v w)
  have HR := hide (fun w => raise_any v dc t w)
  have HRL := hide (fun w => least_any (Vec.raise v dc t) w)
  have HA := hide awake_any
  rw [Vec.raise_is] at HRL
  have hle := Vec.raise_le v dc t
  have e : Vec.raise v dc t = Vec.plain v := by
    unfold Vec.raise
    rw [if_neg]
    rintro ⟨h1, h2, h3⟩
    rcases hout with h | h | ⟨d, rfl, _, h⟩
    · omega
    · omega
    · rw [Int.toNat_natCast, h] at h3; cases h3
  have HR2 := hide (fun w => plain_any v w)
  rw [e] at HR HRL hle
  clear e
  generalize (Vec.least (Vec.plain v)).1 = b at HRL hle
  generalize ha : Vec.least v = m at HL HRL hle
  obtain ⟨a, is⟩ := m
  have HM0 := hide ((Mem.start w).new (t := 26) (cs := Vec.cells v) w.heap.size rfl)
  simp only at HL HRL hle
  clear ha
  go_enter Try.func3, Try.ntmps3
  go_wp2_with (refine wpList_load_blk rfl 26 (.tmp 4) rfl (w.heap.size) rfl 26 _ _ (unhide HM0).blk0 Try.underlying26 rfl (by kernel_rfl) ?_)
  refine (unhide HL _).mono ?_
  rintro e w1 ⟨rfl, hb⟩
  have HM1 := hide ((unhide HM0).called hb)
  clear hb
  go_wp2_with (refine wpList_load_blk rfl 26 (.tmp 4) rfl (w.heap.size) rfl 26 _ _ (unhide HM1).blk0 Try.underlying26 rfl (by kernel_rfl) ?_)
  refine (unhide HR _).mono ?_
  rintro e w2 ⟨rfl, hb⟩
  have HM2 := hide ((unhide HM1).called hb)
  clear hb
  go_wp2_with fail
  refine (unhide HRL _).mono ?_
  rintro e w3 ⟨rfl, hb⟩
  have HM3 := hide ((unhide HM2).called hb)
  clear hb
  rcases hout with hout | hout | ⟨d, rfl, hd, hh⟩
  all_goals
    first
      | (have fH := Vec.atH (unhide HM3).blk0 hd
         rw [hh] at fH
         clear hh)
      | skip
    go_wp2_with fail
    have hld := fun x : SinceW w3.heap.size w3 => Vec.cellsAt ((unhide HM3).called x.h).blk0
    refine wp_region_since (B := w3.heap.size) (by kernel_rfl) (by kernel_rfl) ?_
    repeat (first
      | (go_big_quiet_want; refine quiet_eql _ _ _ rfl rfl rfl (by kernel_rfl) (fun w => Vec.eqlIn 26 rfl rfl _ w _ rfl) ?_; simp only [Act.put, List.setIfInBounds_toArray, List.set_cons_succ, List.set_cons_zero]; go_big_quiet_on)
      | go_big_quiet_step ((first
        | exact calls_since _ (Nat.le_refl _) (unhide HA _)
        | exact calls_since _ (Nat.le_refl _) (unhide HR _)
        | exact calls_since _ (Nat.le_refl _) (unhide HR2 _))))
    refine wpQuiet_nil ?_
    rintro _ ⟨⟨w4, hb⟩, rfl⟩
    have HM4 := hide ((unhide HM3).called hb)
    clear hld hb
    go_wp2
    go_ret
    exact ⟨rfl, (unhide HM4).below⟩

set_option maxHeartbeats 1000000 in
theorem vecRises_some (v : Vec.V) (d : Nat) (t ep : Int) (w : World) (hd : d < 4) (hh : v.h d = true) :
    Calls Try.prog 3 #[Vec.val v, .int .i64 (d : Int), .int .u64 t, .int .i64 ep] w fun e w' => e = .returned (.bool true) ∧ Below w.heap.size w w' := by
  have HL := hide (fun w => least_any v w)
  have HR := hide (fun w => raise_any v d t w)
  have HRL := hide (fun w => least_any (Vec.raise v d t) w)
  have HA := hide awake_any
  rw [Vec.raise_is] at HRL
  have hle := Vec.raise_le v d t
  have HW := hide (fun h => Vec.without_le v ep d h)
  have HT := hide (Vec.without_t v ep d hd)
  have HZ := hide (fun w => resize_any v ep (Vec.without v.h d) w)
  generalize (Vec.least (Vec.raise v d t)).1 = b at HRL hle
  generalize ha : Vec.least v = m at HL HRL hle HW
  obtain ⟨a, is⟩ := m
  have HM0 := hide ((Mem.start w).new (t := 26) (cs := Vec.cells v) w.heap.size rfl)
  simp only at HL HRL hle HW
  clear ha
  have HH := hide hh
  clear hh
  go_enter Try.func3, Try.ntmps3
  go_wp2_with (refine wpList_load_blk rfl 26 (.tmp 4) rfl (w.heap.size) rfl 26 _ _ (unhide HM0).blk0 Try.underlying26 rfl (by kernel_rfl) ?_)
  refine (unhide HL _).mono ?_
  rintro e w1 ⟨rfl, hb⟩
  have HM1 := hide ((unhide HM0).called hb)
  clear hb
  go_wp2_with (refine wpList_load_blk rfl 26 (.tmp 4) rfl (w.heap.size) rfl 26 _ _ (unhide HM1).blk0 Try.underlying26 rfl (by kernel_rfl) ?_)
  refine (unhide HR _).mono ?_
  rintro e w2 ⟨rfl, hb⟩
  have HM2 := hide ((unhide HM1).called hb)
  clear hb
  go_wp2_with fail
  refine (unhide HRL _).mono ?_
  rintro e w3 ⟨rfl, hb⟩
  have HM3 := hide ((unhide HM2).called hb)
  clear hb
  have fH := Vec.atH (unhide HM3).blk0 hd
  rw [unhide HH] at fH
  have fc := Vec.cellsAt (unhide HM3).blk0
  have HM4 := hide ((unhide HM3).new (t := 22) (cs := Vec.hasCells v.h) w3.heap.size rfl)
  have fB := (unhide HM4).blk0.cell d
  rw [Vec.has_at _ hd] at fB
  have fF := (unhide HM4).blk0.frozen d
  have HM5 := hide (((unhide HM3).new (t := 22) (cs := ([.bool (v.h 0), .bool (v.h 1), .bool (v.h 2), .bool (v.h 3)].set d (.bool false)).toArray) w3.heap.size rfl).as0 (show _ = Vec.hasCells (Vec.without v.h d) by rw [← Vec.has_without _ hd]; simp [Vec.hasCells]))
  unfold Vec.hasCells at fB fF
  go_wp2_with (first
    | (refine wpList_load_blk rfl 26 (.tmp 4) rfl (w.heap.size) rfl 26 _ _ (unhide HM5).blk1 Try.underlying26 rfl (by kernel_rfl) ?_)
    | (refine wpList_load_blk rfl 22 (.tmp 13) rfl (w3.heap.size) rfl 22 _ _ (unhide HM5).blk0 Try.underlying22 rfl (by kernel_rfl) ?_))
  refine (unhide HZ _).mono ?_
  rintro e w4 ⟨rfl, hb⟩
  have HM6 := hide ((unhide HM5).called hb)
  clear hb fB fF fc fH HM5 HM4 HM3 HM2 HM1
  have HM7 := hide ((unhide HM6).new (t := 26) (cs := Vec.cells Vec.zero) w4.heap.size rfl)
  clear HM6
  unfold Vec.resize
  by_cases hep : ep ≤ v.ep
  · rw [if_pos hep]
    go_wp2_with (refine wpList_store_blk rfl 26 (.tmp 14) (.tmp 71) rfl (w4.heap.size) _ rfl rfl 26 _ (unhide HM7).blk0 (by kernel_rfl) rfl (Vec.cells_one _) ?_; intro w5 hb5 hg5; have HM8 := hide ((unhide HM7).grown0 hb5 hg5); have HM9 := hide ((unhide HM8).below.size); clear hb5 hg5)
    refine (unhide HA _).mono ?_
    rintro e w6 ⟨rfl, hb⟩
    have HM10 := hide ((unhide HM8).called hb)
    clear hb
    have fe := Vec.atE (unhide HM10).blk2
    go_wp2
    go_ret
    exact ⟨rfl, (unhide HM10).below⟩
  · rw [if_neg hep]
    have HU := hide (fun w => least_any (Vec.resized v ep (Vec.without v.h d)) w)
    have HW := hide (unhide HW)
    generalize (Vec.resized v ep (Vec.without v.h d)) = u at HU HT HW ⊢
    generalize hm : Vec.least u = m at HU HW
    obtain ⟨c, still⟩ := m
    clear hm
    simp only at HU HW
    have hc : still = true → a ≤ c := unhide HW
    go_wp2_with (first
      | (refine wpList_store_blk rfl 26 (.tmp 14) (.tmp 71) rfl (w4.heap.size) _ rfl rfl 26 _ (unhide HM7).blk0 (by kernel_rfl) rfl (Vec.cells_one _) ?_; intro w5 hb5 hg5; have HM8 := hide ((unhide HM7).grown0 hb5 hg5); clear hb5 hg5)
      | (refine wpList_load_blk rfl 26 (.tmp 14) rfl (w4.heap.size) rfl 26 _ _ (unhide HM8).blk0 Try.underlying26 rfl (by kernel_rfl) ?_))
    refine (unhide HU _).mono ?_
    rintro e w6 ⟨rfl, hb⟩
    have HM9 := hide ((unhide HM8).called hb)
    clear hb
    go_wp2_with fail
    refine (unhide HA _).mono ?_
    rintro e w7 ⟨rfl, hb⟩
    have HM10 := hide ((unhide HM9).called hb)
    clear hb
    have ft := Vec.atT (unhide HM10).blk0 hd
    rw [unhide HT] at ft
    cases still with
    | false =>
      go_wp2
      go_ret
      exact ⟨rfl, (unhide HM10).below⟩
    | true =>
      have hc := hc rfl
      go_wp2
      go_ret
      exact ⟨rfl, (unhide HM10).below⟩

theorem vecRises_any (v : Vec.V) (dc t ep : Int) (w : World) :
    Calls Try.prog 3 #[Vec.val v, .int .i64 dc, .int .u64 t, .int .i64 ep] w fun e w' => e = .returned (.bool true) ∧ Below w.heap.size w w' := by
  by_cases h : dc < 0 ∨ 3 < dc
  · exact vecRises_none v dc t ep w (by omega)
  · obtain ⟨d, rfl⟩ := Int.eq_ofNat_of_zero_le (show 0 ≤ dc by omega)
    cases hh : v.h d with
    | false => exact vecRises_none v d t ep w (.inr (.inr ⟨d, rfl, by omega, hh⟩))
    | true => exact vecRises_some v d t ep w (by omega) hh
end Go.Proofs.Ytmdjcpghghlpkaa
