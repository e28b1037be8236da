/- The walks of vec: Plain, Least, Raise. -/
import Derived.Test.YtmogoockhlfabaaMem
import Derived.Test.YtmogoockhlfabaaVecMath
namespace Go.Proofs.Ytmogoockhlfabaa
set_option linter.unusedVariables false
open Go.RowKit

theorem blk_new2 (w : World) (o : Obj) (t : TypeId) (cs : Array Value) : Blk ((w.alloc o).alloc (.cells cs t)) (w.heap.size + 1) t cs := by
  have h := Blk.new (w.alloc o) t cs
  have e : (w.alloc o).heap.size = w.heap.size + 1 := by simp
  rw [e] at h
  exact h
theorem Vec.cells_one (v : Vec.V) : (Vec.cells v).all (·.oneCell') = true := by simp [Vec.cells, Value.oneCell']
theorem Vec.atE {w : World} {g : Nat} {t : TypeId} {v : Vec.V} (h : Blk w g t (Vec.cells v)) : w.cell? ⟨g, 0, none⟩ = some (.int .i64 v.ep) := h.cell 0
theorem Vec.atH {w : World} {g : Nat} {t : TypeId} {v : Vec.V} (h : Blk w g t (Vec.cells v)) {k : Nat} (hk : k < 4) : w.cell? ⟨g, 1 + k, none⟩ = some (.bool (v.h k)) := (h.cell _).trans (Vec.cells_has v hk)
theorem Vec.atT {w : World} {g : Nat} {t : TypeId} {v : Vec.V} (h : Blk w g t (Vec.cells v)) {k : Nat} (hk : k < 4) : w.cell? ⟨g, 5 + k, none⟩ = some (.int .u64 (v.t k)) := (h.cell _).trans (Vec.cells_time v hk)
theorem Vec.index_has (h : Nat → Bool) (k : Nat) (hk : k < 4) (W : World) : (Instr.index 22 (.agg #[.bool (h 0), .bool (h 1), .bool (h 2), .bool (h 3)]) (.int .i64 (k : Int))).run Try.prog W = .ok (.bool (h k)) W := by
  have h4 : k = 0 ∨ k = 1 ∨ k = 2 ∨ k = 3 := by omega
  rcases h4 with rfl | rfl | rfl | rfl <;> rfl

set_option maxHeartbeats 1000000 in
theorem plain_any (v : Vec.V) (w : World) :
    Calls Try.prog 23 #[Vec.val v] w fun e w' => e = .returned (Vec.val (Vec.plain v)) ∧ Below w.heap.size w w' := by
  show Calls Try.prog 23 #[.agg #[.int .i64 v.ep, .bool (v.h 0), .bool (v.h 1), .bool (v.h 2), .bool (v.h 3), .int .u64 (v.t 0), .int .u64 (v.t 1), .int .u64 (v.t 2), .int .u64 (v.t 3)]] w _
  go_enter Try.func23, Try.ntmps23
  go_wp2
  go_loopw [7] (fun i wr => ∃ k : Nat, k ≤ 4 ∧ i = .int .i64 k ∧ Blk wr w.heap.size 42 (Vec.cells (Vec.plainTo k v)) ∧ Blk wr (w.heap.size + 1) 42 (Vec.cells Vec.zero) ∧ Below w.heap.size w wr) (fun i _ => 4 - (intOf i).toNat)
  case atStart =>
    refine ⟨0, by omega, rfl, ?_, ?_, ((Below.refl _ _).alloc (Nat.le_refl _) _).alloc (by simp) _⟩
    · rw [Vec.plainTo_zero]; exact (Blk.new _ _ _).alloc _
    · exact blk_new2 _ _ _ _
  case round =>
    obtain ⟨k, hk, rfl, hblk, hb2, hbel⟩ := hrel
    have HB := hide hblk
    have H2 := hide hb2
    have HE := hide hbel
    by_cases hlt : k < 4
    · have hix' := Vec.index_has v.h k hlt
      have hcx := hblk.cell (5 + k)
      have hfz := hblk.frozen (5 + k)
      rw [Vec.cells_time _ hlt] at hcx
      clear hblk hb2 hbel
      by_cases hh : v.h k = true
      · have HC := hide (Vec.cells_plainTo_on hh)
        go_wp2
        exact ⟨⟨k + 1, by omega, by go_num, by rw [unhide HC]; exact unhide HB, unhide H2, unhide HE⟩, by simp [intOf]; omega⟩
      · have hh : v.h k = false := by simpa using hh
        have HC := hide (Vec.cells_plainTo_off hh hlt)
        go_wp2
        exact ⟨⟨k + 1, by omega, by go_num, by rw [unhide HC]; exact (unhide HB).set_ _ _, (unhide H2).far (by simp) _, (unhide HE).setCell (Nat.le_refl _) _⟩, by simp [intOf]; omega⟩
    · obtain rfl : k = 4 := by omega
      clear hblk hb2 hbel
      go_wp2_with (first
        | (refine wpList_load_blk rfl 42 (.tmp 1) rfl w.heap.size rfl 42 _ _ (unhide HB) Try.underlying42 rfl (by kernel_rfl) ?_)
        | (refine wpList_store_blk rfl 42 (.tmp 2) (.tmp 17) rfl (w.heap.size + 1) _ rfl rfl 42 _ (unhide H2) (by kernel_rfl) rfl (Vec.cells_one _) ?_; intro w2 hb3 hg3))
      refine bodyPost_ret (results_cell_row rfl _ _ (w.heap.size + 1) 42 _ (0, 0) _ rfl hb3 Try.underlying42 rfl (by kernel_rfl)) rfl ⟨rfl, (unhide HE).grown hg3 (unhide HE).size (by simp)⟩

set_option maxHeartbeats 1000000 in
theorem least_any (v : Vec.V) (w : World) :
    Calls Try.prog 17 #[Vec.val v] w fun e w' => e = .returned (.tuple #[.int .u64 (Vec.least v).1, .bool (Vec.least v).2]) ∧ Below w.heap.size w w' := by
  show Calls Try.prog 17 #[.agg #[.int .i64 v.ep, .bool (v.h 0), .bool (v.h 1), .bool (v.h 2), .bool (v.h 3), .int .u64 (v.t 0), .int .u64 (v.t 1), .int .u64 (v.t 2), .int .u64 (v.t 3)]] w _
  go_enter Try.func17, Try.ntmps17
  go_wp2
  go_loopw [4, 5, 10] (fun t s i wr => ∃ k : Nat, k ≤ 4 ∧ i = .int .i64 k ∧ t = .int .u64 (Vec.leastTo k v).1 ∧ s = .bool (Vec.leastTo k v).2 ∧ Blk wr w.heap.size 42 (Vec.cells v) ∧ Below w.heap.size w wr) (fun _ _ i _ => 4 - (intOf i).toNat)
  case atStart => exact ⟨0, by omega, rfl, rfl, rfl, Blk.new _ _ _, (Below.refl _ _).alloc (Nat.le_refl _) _⟩
  case round =>
    obtain ⟨k, hk, rfl, rfl, rfl, hblk, hbel⟩ := hrel
    have HB := hide hblk
    have HE := hide hbel
    by_cases hlt : k < 4
    · have hix' := Vec.index_has v.h k hlt
      have hcx := Vec.atT hblk hlt
      have HL := hide (Vec.leastTo_succ k v)
      clear hblk hbel
      cases hh : v.h k with
      | false =>
        rw [hh, if_neg (by simp)] at HL
        go_wp2
        exact ⟨⟨k + 1, by omega, by go_num, by rw [unhide HL], by rw [unhide HL], unhide HB, unhide HE⟩, by simp [intOf]; omega⟩
      | true =>
        rw [hh] at HL
        generalize Vec.leastTo k v = m at HL ⊢
        obtain ⟨m1, m2⟩ := m
        cases m2 with
        | false =>
          rw [if_pos ⟨rfl, .inl rfl⟩] at HL
          go_wp2
          exact ⟨⟨k + 1, by omega, by go_num, by rw [unhide HL], by rw [unhide HL], unhide HB, unhide HE⟩, by simp [intOf]; omega⟩
        | true =>
          by_cases hm : v.t k < m1
          · rw [if_pos ⟨rfl, .inr hm⟩] at HL
            go_wp2
            exact ⟨⟨k + 1, by omega, by go_num, by rw [unhide HL], by rw [unhide HL], unhide HB, unhide HE⟩, by simp [intOf]; omega⟩
          · rw [if_neg (by simp; omega)] at HL
            go_wp2
            exact ⟨⟨k + 1, by omega, by go_num, by rw [unhide HL], by rw [unhide HL], unhide HB, unhide HE⟩, by simp [intOf]; omega⟩
    · obtain rfl : k = 4 := by omega
      clear hblk hbel
      go_wp2
      go_ret2
      exact ⟨rfl, unhide HE⟩

set_option maxHeartbeats 1000000 in
theorem raise_out (v : Vec.V) (dc t : Int) (w : World) (h : dc < 0 ∨ 3 < dc) :
    Calls Try.prog 18 #[Vec.val v, .int .i64 dc, .int .u64 t] w fun e w' => e = .returned (Vec.val (Vec.plain v)) ∧ Below w.heap.size w w' := by
  have HP := hide (fun w => plain_any v w)
  rcases h with h | h
  all_goals
    go_enter Try.func18, Try.ntmps18
    go_wp2_with (refine wpList_load_blk rfl 42 (.tmp 3) rfl (w.heap.size) rfl 42 _ _ ((Blk.new _ _ _).alloc _) Try.underlying42 rfl (by kernel_rfl) ?_)
    refine (unhide HP _).mono ?_
    rintro e w1 ⟨rfl, hb1⟩
    have hv := ((Blk.new w 42 (Vec.cells v)).alloc (.cells (Vec.cells Vec.zero) 42)).below hb1 (by simp; omega)
    have hz := (blk_new2 w (.cells (Vec.cells v) 42) 42 (Vec.cells Vec.zero)).below hb1 (by simp)
    have HE := hide (((Below.refl w.heap.size w).alloc (Nat.le_refl _) (.cells (Vec.cells v) 42)).alloc (by simp) (.cells (Vec.cells Vec.zero) 42) |>.trans (hb1.mono (by simp; omega)))
    have HV := hide hv
    have HZ := hide hz
    clear hb1 hv hz
    go_wp2_with (first | (refine wpList_store_blk rfl 42 (.tmp 3) (.tmp 8) rfl (w.heap.size) _ rfl rfl 42 _ (unhide HV) (by kernel_rfl) rfl (Vec.cells_one _) ?_; intro w2 hb2 hg2; have hz2 := (unhide HZ).grown hg2 (by simp); have he2 := (unhide HE).grown hg2 (unhide HE).size (by simp); have HV2 := hide hb2; have HZ2 := hide hz2; have HE2 := hide he2;clear hb2 hg2 hz2 he2) | (refine wpList_load_blk rfl 42 (.tmp 3) rfl (w.heap.size) rfl 42 _ _ (unhide HV2) Try.underlying42 rfl (by kernel_rfl) ?_) | (refine wpList_store_blk rfl 42 (.tmp 6) (.tmp 30) rfl (w.heap.size + 1) _ rfl rfl 42 _ (unhide HZ2) (by kernel_rfl) rfl (Vec.cells_one _) ?_; intro w3 hb3 hg3))
    refine bodyPost_ret (results_cell_row rfl _ _ (w.heap.size + 1) 42 _ (0, 0) _ rfl hb3 Try.underlying42 rfl (by kernel_rfl)) rfl ⟨rfl, (unhide HE2).grown hg3 (unhide HE2).size (by simp)⟩
set_option maxHeartbeats 1000000 in
theorem raise_off (v : Vec.V) (d : Nat) (t : Int) (w : World) (hd : d < 4) (hh : v.h d = false) :
    Calls Try.prog 18 #[Vec.val v, .int .i64 (d : Int), .int .u64 t] w fun e w' => e = .returned (Vec.val (Vec.plain v)) ∧ Below w.heap.size w w' := by
  have HP := hide (fun w => plain_any v w)
  go_enter Try.func18, Try.ntmps18
  go_wp2_with (refine wpList_load_blk rfl 42 (.tmp 3) rfl (w.heap.size) rfl 42 _ _ ((Blk.new _ _ _).alloc _) Try.underlying42 rfl (by kernel_rfl) ?_)
  refine (unhide HP _).mono ?_
  rintro e w1 ⟨rfl, hb1⟩
  have hv := ((Blk.new w 42 (Vec.cells v)).alloc (.cells (Vec.cells Vec.zero) 42)).below hb1 (by simp; omega)
  have hz := (blk_new2 w (.cells (Vec.cells v) 42) 42 (Vec.cells Vec.zero)).below hb1 (by simp)
  have HE := hide (((Below.refl w.heap.size w).alloc (Nat.le_refl _) (.cells (Vec.cells v) 42)).alloc (by simp) (.cells (Vec.cells Vec.zero) 42) |>.trans (hb1.mono (by simp; omega)))
  have HV := hide hv
  have HZ := hide hz
  clear hb1 hv hz
  go_wp2_with (first | (refine wpList_store_blk rfl 42 (.tmp 3) (.tmp 8) rfl (w.heap.size) _ rfl rfl 42 _ (unhide HV) (by kernel_rfl) rfl (Vec.cells_one _) ?_; intro w2 hb2 hg2; have hz2 := (unhide HZ).grown hg2 (by simp); have he2 := (unhide HE).grown hg2 (unhide HE).size (by simp); have HV2 := hide hb2; have HZ2 := hide hz2; have HE2 := hide he2;have fH := Vec.atH hb2 hd; rw [Vec.plain_h, hh] at fH; clear hb2 hg2 hz2 he2) | (refine wpList_load_blk rfl 42 (.tmp 3) rfl (w.heap.size) rfl 42 _ _ (unhide HV2) Try.underlying42 rfl (by kernel_rfl) ?_) | (refine wpList_store_blk rfl 42 (.tmp 6) (.tmp 30) rfl (w.heap.size + 1) _ rfl rfl 42 _ (unhide HZ2) (by kernel_rfl) rfl (Vec.cells_one _) ?_; intro w3 hb3 hg3))
  refine bodyPost_ret (results_cell_row rfl _ _ (w.heap.size + 1) 42 _ (0, 0) _ rfl hb3 Try.underlying42 rfl (by kernel_rfl)) rfl ⟨rfl, (unhide HE2).grown hg3 (unhide HE2).size (by simp)⟩
set_option maxHeartbeats 1000000 in
theorem raise_on (v : Vec.V) (d : Nat) (t : Int) (w : World) (hd : d < 4) (hh : v.h d = true) :
    Calls Try.prog 18 #[Vec.val v, .int .i64 (d : Int), .int .u64 t] w fun e w' => e = .returned (Vec.val (Vec.setT (Vec.plain v) d (max ((Vec.plain v).t d) t))) ∧ Below w.heap.size w w' := by
  have HP := hide (fun w => plain_any v w)
  by_cases hm : (Vec.plain v).t d < t
  · have em : max ((Vec.plain v).t d) t = t := by omega
    rw [em]
    clear em
    go_enter Try.func18, Try.ntmps18
    go_wp2_with (refine wpList_load_blk rfl 42 (.tmp 3) rfl (w.heap.size) rfl 42 _ _ ((Blk.new _ _ _).alloc _) Try.underlying42 rfl (by kernel_rfl) ?_)
    refine (unhide HP _).mono ?_
    rintro e w1 ⟨rfl, hb1⟩
    have hv := ((Blk.new w 42 (Vec.cells v)).alloc (.cells (Vec.cells Vec.zero) 42)).below hb1 (by simp; omega)
    have hz := (blk_new2 w (.cells (Vec.cells v) 42) 42 (Vec.cells Vec.zero)).below hb1 (by simp)
    have HE := hide (((Below.refl w.heap.size w).alloc (Nat.le_refl _) (.cells (Vec.cells v) 42)).alloc (by simp) (.cells (Vec.cells Vec.zero) 42) |>.trans (hb1.mono (by simp; omega)))
    have HV := hide hv
    have HZ := hide hz
    clear hb1 hv hz
    go_wp2_with (first | (refine wpList_store_blk rfl 42 (.tmp 3) (.tmp 8) rfl (w.heap.size) _ rfl rfl 42 _ (unhide HV) (by kernel_rfl) rfl (Vec.cells_one _) ?_; intro w2 hb2 hg2; have hz2 := (unhide HZ).grown hg2 (by simp); have he2 := (unhide HE).grown hg2 (unhide HE).size (by simp); have HE2 := hide he2; have fH := Vec.atH hb2 hd; rw [Vec.plain_h, hh] at fH; have fT := Vec.atT hb2 hd; have fz := hb2.frozen (5 + d); have hs := hb2.set_ (5 + d) (.int .u64 t); rw [Vec.cells_setT _ _ hd] at hs; have HVS := hide hs; have HZS := hide (hz2.far (p := ⟨w.heap.size, 5 + d, none⟩) (by simp) (.int .u64 t)); clear hb2 hg2 hz2 he2 hs) | (refine wpList_load_blk rfl 42 (.tmp 3) rfl (w.heap.size) rfl 42 _ _ (unhide HVS) Try.underlying42 rfl (by kernel_rfl) ?_) | (refine wpList_store_blk rfl 42 (.tmp 6) (.tmp 30) rfl (w.heap.size + 1) _ rfl rfl 42 _ (unhide HZS) (by kernel_rfl) rfl (Vec.cells_one _) ?_; intro w3 hb3 hg3))
    refine bodyPost_ret (results_cell_row rfl _ _ (w.heap.size + 1) 42 _ (0, 0) _ rfl hb3 Try.underlying42 rfl (by kernel_rfl)) rfl ⟨rfl, ((unhide HE2).setCell (by simp) _).grown hg3 (by simp; exact (unhide HE2).size) (by simp)⟩
  · have em : max ((Vec.plain v).t d) t = (Vec.plain v).t d := by omega
    rw [em]
    clear em
    go_enter Try.func18, Try.ntmps18
    go_wp2_with (refine wpList_load_blk rfl 42 (.tmp 3) rfl (w.heap.size) rfl 42 _ _ ((Blk.new _ _ _).alloc _) Try.underlying42 rfl (by kernel_rfl) ?_)
    refine (unhide HP _).mono ?_
    rintro e w1 ⟨rfl, hb1⟩
    have hv := ((Blk.new w 42 (Vec.cells v)).alloc (.cells (Vec.cells Vec.zero) 42)).below hb1 (by simp; omega)
    have hz := (blk_new2 w (.cells (Vec.cells v) 42) 42 (Vec.cells Vec.zero)).below hb1 (by simp)
    have HE := hide (((Below.refl w.heap.size w).alloc (Nat.le_refl _) (.cells (Vec.cells v) 42)).alloc (by simp) (.cells (Vec.cells Vec.zero) 42) |>.trans (hb1.mono (by simp; omega)))
    have HV := hide hv
    have HZ := hide hz
    clear hb1 hv hz
    go_wp2_with (first | (refine wpList_store_blk rfl 42 (.tmp 3) (.tmp 8) rfl (w.heap.size) _ rfl rfl 42 _ (unhide HV) (by kernel_rfl) rfl (Vec.cells_one _) ?_; intro w2 hb2 hg2; have hz2 := (unhide HZ).grown hg2 (by simp); have he2 := (unhide HE).grown hg2 (unhide HE).size (by simp); have HE2 := hide he2; have fH := Vec.atH hb2 hd; rw [Vec.plain_h, hh] at fH; have fT := Vec.atT hb2 hd; have fz := hb2.frozen (5 + d); have hs := hb2.set_ (5 + d) (.int .u64 ((Vec.plain v).t d)); rw [Vec.cells_setT _ _ hd] at hs; have HVS := hide hs; have HZS := hide (hz2.far (p := ⟨w.heap.size, 5 + d, none⟩) (by simp) (.int .u64 ((Vec.plain v).t d))); clear hb2 hg2 hz2 he2 hs) | (refine wpList_load_blk rfl 42 (.tmp 3) rfl (w.heap.size) rfl 42 _ _ (unhide HVS) Try.underlying42 rfl (by kernel_rfl) ?_) | (refine wpList_store_blk rfl 42 (.tmp 6) (.tmp 30) rfl (w.heap.size + 1) _ rfl rfl 42 _ (unhide HZS) (by kernel_rfl) rfl (Vec.cells_one _) ?_; intro w3 hb3 hg3))
    refine bodyPost_ret (results_cell_row rfl _ _ (w.heap.size + 1) 42 _ (0, 0) _ rfl hb3 Try.underlying42 rfl (by kernel_rfl)) rfl ⟨rfl, ((unhide HE2).setCell (by simp) _).grown hg3 (by simp; exact (unhide HE2).size) (by simp)⟩

theorem raise_any (v : Vec.V) (dc t : Int) (w : World) :
    Calls Try.prog 18 #[Vec.val v, .int .i64 dc, .int .u64 t] w fun e w' => e = .returned (Vec.val (Vec.raise v dc t)) ∧ Below w.heap.size w w' := by
  unfold Vec.raise
  by_cases h : dc < 0 ∨ 3 < dc
  · rw [if_neg (by omega)]
    exact raise_out v dc t w h
  · obtain ⟨d, rfl⟩ := Int.eq_ofNat_of_zero_le (show 0 ≤ dc by omega)
    rw [Int.toNat_natCast]
    cases hh : v.h d with
    | false =>
      rw [if_neg (by simp)]
      exact raise_off v d t w (by omega) hh
    | true =>
      rw [if_pos ⟨by omega, by omega, rfl⟩]
      exact raise_on v d t w (by omega) hh
end Go.Proofs.Ytmogoockhlfabaa
