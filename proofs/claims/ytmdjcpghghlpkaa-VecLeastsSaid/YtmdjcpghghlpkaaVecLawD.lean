/- The walk of VecLeasts. -/
import Derived.Test.YtmdjcpghghlpkaaVecLawC
import Derived.Deep.RegionHeld3
namespace Go.Proofs.Ytmdjcpghghlpkaa
open Go.RowKit
set_option linter.unusedVariables false

namespace Vec
theorem leq_iff {a b : V} : leq a b = true ↔ a.ep = b.ep ∧ LeqTo 4 a b := by
  unfold leq; exact decide_eq_true_iff
theorem same_h {a b : V} (he : a.ep = b.ep) {i : Nat} (hi : i < 4) : (merge a b).h i = (a.h i || b.h i) := by
  rw [merge_h a b hi, if_neg (by omega), if_neg (by omega)]
theorem same_ep {a b : V} (he : a.ep = b.ep) : (merge a b).ep = a.ep := by rw [merge_ep, if_neg (by omega)]
theorem merge_plain_t (a b : V) {i : Nat} (hi : i < 4) : (plain (merge a b)).t i = (merge a b).t i := by
  rw [plain_t _ hi]
  split
  · rfl
  · rename_i h
    rw [merge_t a b hi, if_neg h]
/-- no time of a vector as it comes in is below nought -/
def Pos (v : V) : Prop := ∀ i, i < 4 → 0 ≤ v.t i
theorem plain_pos {v : V} (h : Pos v) {i : Nat} (hi : i < 4) : 0 ≤ (plain v).t i := by
  rw [plain_t _ hi]
  split
  · exact h i hi
  · omega
theorem same_t {a b : V} (he : a.ep = b.ep) (ha : Pos a) (hb : Pos b) {i : Nat} (hi : i < 4) : (merge a b).t i = max ((plain a).t i) ((plain b).t i) := by
  rw [merge_t a b hi, same_h he hi]
  have h1 := plain_pos ha hi
  have h2 := plain_pos hb hi
  split
  · rfl
  · rename_i h
    simp only [Bool.or_eq_true, not_or, Bool.not_eq_true] at h
    rw [plain_out hi h.1, plain_out hi h.2]
    rfl
theorem merge_pos {a b : V} (he : a.ep = b.ep) (ha : Pos a) (hb : Pos b) {i : Nat} (hi : i < 4) : 0 ≤ (merge a b).t i := by
  rw [same_t he ha hb hi]
  have h1 := plain_pos ha hi
  omega
theorem merge_assoc {a b c : V} (hb : a.ep = b.ep) (hc : a.ep = c.ep) (pa : Pos a) (pb : Pos b) (pc : Pos c) : cells (merge (merge a b) c) = cells (merge a (merge b c)) := by
  have e1 : (merge a b).ep = c.ep := (same_ep hb).trans hc
  have e2 : a.ep = (merge b c).ep := hb.trans (same_ep (hb.symm.trans hc)).symm
  have hh : ∀ i, i < 4 → (merge (merge a b) c).h i = (merge a (merge b c)).h i := fun i hi => by
    rw [same_h e1 hi, same_h hb hi, same_h e2 hi, same_h (hb.symm.trans hc) hi, Bool.or_assoc]
  refine cells_ext ?_ hh fun i hi => ?_
  · rw [same_ep e1, same_ep hb, same_ep e2]
  · rw [merge_t _ c hi, merge_t a _ hi, hh i hi, merge_plain_t a b hi, merge_plain_t b c hi, same_t hb pa pb hi, same_t (hb.symm.trans hc) pb pc hi]
    split <;> omega
theorem below_l {a b : V} (he : a.ep = b.ep) (pa : Pos a) (pb : Pos b) : leq (plain a) (merge a b) = true :=
  leq_iff.2 ⟨(same_ep he).symm, fun i hi hm => ⟨by rw [same_h he hi, show a.h i = true from hm]; rfl, by rw [same_t he pa pb hi]; omega⟩⟩
theorem cells_h {u v : V} (h : cells u = cells v) {i : Nat} (hi : i < 4) : u.h i = v.h i := by
  have h1 := cells_has u hi
  rw [h, cells_has v hi] at h1
  simpa using h1.symm
theorem cells_t {u v : V} (h : cells u = cells v) {i : Nat} (hi : i < 4) : u.t i = v.t i := by
  have h1 := cells_time u hi
  rw [h, cells_time v hi] at h1
  simpa using h1.symm
theorem cells_ep {u v : V} (h : cells u = cells v) : u.ep = v.ep := by
  have h0 : (cells u)[0]? = some (.int .i64 u.ep) := rfl
  rw [h] at h0
  have h1 : (cells v)[0]? = some (.int .i64 v.ep) := rfl
  rw [h1] at h0
  simpa using h0.symm
theorem leq_cells {x u v : V} (h : cells u = cells v) : leq x u = leq x v := by
  rw [Bool.eq_iff_iff, leq_iff, leq_iff, cells_ep h]
  constructor
  · rintro ⟨h1, h2⟩
    exact ⟨h1, fun i hi hm => by rw [← cells_h h hi, ← cells_t h hi]; exact h2 i hi hm⟩
  · rintro ⟨h1, h2⟩
    exact ⟨h1, fun i hi hm => by rw [cells_h h hi, cells_t h hi]; exact h2 i hi hm⟩
theorem leq_trans {a b c : V} (h1 : leq a b = true) (h2 : leq b c = true) : leq a c = true := by
  rw [leq_iff] at *
  refine ⟨h1.1.trans h2.1, fun i hi hm => ?_⟩
  obtain ⟨x1, x2⟩ := h1.2 i hi hm
  obtain ⟨y1, y2⟩ := h2.2 i hi x1
  exact ⟨y1, by omega⟩
theorem plain_plain_t (v : V) {i : Nat} (hi : i < 4) : (plain (plain v)).t i = (plain v).t i := by
  rw [plain_t _ hi, plain_h, plain_t _ hi]
  split <;> rfl
theorem leq_plain_l {x y : V} (h : leq (plain x) y = true) : leq x y = true := by
  rw [leq_iff] at *
  refine ⟨h.1, fun i hi hm => ?_⟩
  obtain ⟨h1, h2⟩ := h.2 i hi hm
  rw [plain_t x hi, if_pos hm] at h2
  exact ⟨h1, h2⟩
/-- what both are below is above what is merged -/
theorem least_up {a b o : V} (he : a.ep = b.ep) (pa : Pos a) (pb : Pos b) (po : Pos o) (h1 : leq a o = true) (h2 : leq b o = true) : leq (merge a b) o = true := by
  rw [leq_iff] at *
  refine ⟨(same_ep he).trans h1.1, fun i hi hm => ?_⟩
  rw [same_h he hi] at hm
  have hp := po i hi
  have q1 : (plain a).t i ≤ o.t i := by
    rw [plain_t a hi]
    split
    · rename_i h; exact (h1.2 i hi h).2
    · exact hp
  have q2 : (plain b).t i ≤ o.t i := by
    rw [plain_t b hi]
    split
    · rename_i h; exact (h2.2 i hi h).2
    · exact hp
  refine ⟨?_, by rw [same_t he pa pb hi]; omega⟩
  rcases Bool.or_eq_true _ _ ▸ hm with h | h
  · exact (h1.2 i hi h).1
  · exact (h2.2 i hi h).1
theorem leasts {a b c o : V} (hb : a.ep = b.ep) (hc : a.ep = c.ep) (pa : Pos a) (pb : Pos b) (pc : Pos c) (po : Pos o) :
    leq (plain a) (merge (merge a b) c) = true ∧ leq (plain b) (merge (merge a b) c) = true ∧ leq (plain c) (merge (merge a b) c) = true ∧
    (leq a (plain o) = true → leq b (plain o) = true → leq c (plain o) = true → leq (merge (merge a b) c) (plain o) = true) := by
  have e1 : (merge a b).ep = c.ep := (same_ep hb).trans hc
  have pm : Pos (merge a b) := fun i hi => merge_pos hb pa pb hi
  have hm : leq (merge a b) (merge (merge a b) c) = true := leq_plain_l (below_l e1 pm pc)
  refine ⟨leq_trans (below_l hb pa pb) hm, leq_trans ?_ hm, ?_, fun h1 h2 h3 => ?_⟩
  · rw [leq_cells (merge_comm a b)]
    exact below_l hb.symm pb pa
  · rw [leq_cells (merge_comm _ c)]
    exact below_l e1.symm pc pm
  · have pp : Pos (plain o) := fun i hi => plain_pos po hi
    exact least_up e1 pm pc pp (least_up hb pa pb pp h1 h2) h3
end Vec

set_option maxHeartbeats 4000000 in
set_option maxRecDepth 20000 in
theorem vecLeasts_walk (a b0 c0 o0 b c o ab m po : Vec.V) (hb : b = { b0 with ep := a.ep }) (hc : c = { c0 with ep := a.ep }) (ho : o = { o0 with ep := a.ep }) (la lb lc lm : Bool)
    (hab : ∀ w, Calls Try.prog 18 #[Vec.val a, Vec.val b] w fun e w' => e = .returned (Vec.val ab) ∧ Below w.heap.size w w')
    (hm : ∀ w, Calls Try.prog 18 #[Vec.val ab, Vec.val c] w fun e w' => e = .returned (Vec.val m) ∧ Below w.heap.size w w')
    (bc : Vec.V) (hbc : ∀ w, Calls Try.prog 18 #[Vec.val b, Vec.val c] w fun e w' => e = .returned (Vec.val bc) ∧ Below w.heap.size w w')
    (hm2 : ∀ w, Calls Try.prog 18 #[Vec.val a, Vec.val bc] w fun e w' => e = .returned (Vec.val m) ∧ Below w.heap.size w w')
    (pa pb pc : Vec.V)
    (hpa : ∀ w, Calls Try.prog 10 #[Vec.val a] w fun e w' => e = .returned (Vec.val pa) ∧ Below w.heap.size w w')
    (hpb : ∀ w, Calls Try.prog 10 #[Vec.val b] w fun e w' => e = .returned (Vec.val pb) ∧ Below w.heap.size w w')
    (hpc : ∀ w, Calls Try.prog 10 #[Vec.val c] w fun e w' => e = .returned (Vec.val pc) ∧ Below w.heap.size w w')
    (hpo : ∀ w, Calls Try.prog 10 #[Vec.val o] w fun e w' => e = .returned (Vec.val po) ∧ Below w.heap.size w w')
    (h1 : ∀ w, Calls Try.prog 20 #[Vec.val pa, Vec.val m] w fun e w' => e = .returned (.bool true) ∧ Below w.heap.size w w')
    (h2 : ∀ w, Calls Try.prog 20 #[Vec.val pb, Vec.val m] w fun e w' => e = .returned (.bool true) ∧ Below w.heap.size w w')
    (h3 : ∀ w, Calls Try.prog 20 #[Vec.val pc, Vec.val m] w fun e w' => e = .returned (.bool true) ∧ Below w.heap.size w w')
    (h4 : ∀ w, Calls Try.prog 20 #[Vec.val a, Vec.val po] w fun e w' => e = .returned (.bool la) ∧ Below w.heap.size w w')
    (h5 : ∀ w, Calls Try.prog 20 #[Vec.val b, Vec.val po] w fun e w' => e = .returned (.bool lb) ∧ Below w.heap.size w w')
    (h6 : ∀ w, Calls Try.prog 20 #[Vec.val c, Vec.val po] w fun e w' => e = .returned (.bool lc) ∧ Below w.heap.size w w')
    (h7 : ∀ w, Calls Try.prog 20 #[Vec.val m, Vec.val po] w fun e w' => e = .returned (.bool lm) ∧ Below w.heap.size w w')
    (hl : la = true → lb = true → lc = true → lm = true) (w : World) :
    Calls Try.prog 6 #[Vec.val a, Vec.val b0, Vec.val c0, Vec.val o0] w fun e w' => e = .returned (.bool true) ∧ Below w.heap.size w w' := by
  show Calls Try.prog 6 #[.agg #[.int .i64 a.ep, .bool (a.h 0), .bool (a.h 1), .bool (a.h 2), .bool (a.h 3), .int .u64 (a.t 0), .int .u64 (a.t 1), .int .u64 (a.t 2), .int .u64 (a.t 3)],
    .agg #[.int .i64 b0.ep, .bool (b0.h 0), .bool (b0.h 1), .bool (b0.h 2), .bool (b0.h 3), .int .u64 (b0.t 0), .int .u64 (b0.t 1), .int .u64 (b0.t 2), .int .u64 (b0.t 3)],
    .agg #[.int .i64 c0.ep, .bool (c0.h 0), .bool (c0.h 1), .bool (c0.h 2), .bool (c0.h 3), .int .u64 (c0.t 0), .int .u64 (c0.t 1), .int .u64 (c0.t 2), .int .u64 (c0.t 3)],
    .agg #[.int .i64 o0.ep, .bool (o0.h 0), .bool (o0.h 1), .bool (o0.h 2), .bool (o0.h 3), .int .u64 (o0.t 0), .int .u64 (o0.t 1), .int .u64 (o0.t 2), .int .u64 (o0.t 3)]] w _
  have Hab := hide hab
  have Hm := hide hm
  have Hbc := hide hbc
  have Hm2 := hide hm2
  have Hpa := hide hpa
  have Hpb := hide hpb
  have Hpc := hide hpc
  have Hpo := hide hpo
  have H1 := hide h1
  have H2 := hide h2
  have H3 := hide h3
  have H4 := hide h4
  have H5 := hide h5
  have H6 := hide h6
  have H7 := hide h7
  have HA := hide awake_any
  have HLL := hide hl
  have HB := hide hb
  have HC := hide hc
  have HO := hide ho
  clear hab hm hbc hm2 hpa hpb hpc hpo h1 h2 h3 h4 h5 h6 h7 hl hb hc ho
  go_enter Try.func6, Try.ntmps6
  go_wp2_with fail
  go_cut [9] (fun s9 wx => Mem w wx [(w.heap.size + 1 + 1 + 1, 26, Vec.cells o), (w.heap.size + 1 + 1, 26, Vec.cells c), (w.heap.size + 1, 26, Vec.cells b), (w.heap.size, 26, Vec.cells a)])
  case first =>
    go_region
    all_goals go_wp2_with fail
    all_goals go_meet
    have hb := unhide HB
    have hc := unhide HC
    have ho := unhide HO
    subst hb hc ho
    exact (((((Mem.start w).new (cs := Vec.cells a) w.heap.size rfl).new (cs := Vec.cells { b0 with ep := a.ep }) (w.heap.size + 1) (by simp)).new (cs := Vec.cells { c0 with ep := a.ep }) (w.heap.size + 1 + 1) (by simp)).new (cs := Vec.cells { o0 with ep := a.ep }) (w.heap.size + 1 + 1 + 1) (by simp)).drew
  case rest =>
    have HM6 := hide hcut
    clear hcut HB HC HO
    go_wp2_with fail
    go_cut [9] (fun s9 wx => ∃ g, s9 = .pointer (some ⟨g, 0, none⟩) ∧ Mem w wx ((g, 26, Vec.cells m) :: [(w.heap.size + 1 + 1 + 1, 26, Vec.cells o), (w.heap.size + 1 + 1, 26, Vec.cells c), (w.heap.size + 1, 26, Vec.cells b), (w.heap.size, 26, Vec.cells a)]))
    case first =>
      have hc1 := fun (wx : World) (h : Mem w wx [(w.heap.size + 1 + 1 + 1, 26, Vec.cells o), (w.heap.size + 1 + 1, 26, Vec.cells c), (w.heap.size + 1, 26, Vec.cells b), (w.heap.size, 26, Vec.cells a)]) => Vec.cellsAt h.blk3
      have hc2 := fun (wx : World) (h : Mem w wx [(w.heap.size + 1 + 1 + 1, 26, Vec.cells o), (w.heap.size + 1 + 1, 26, Vec.cells c), (w.heap.size + 1, 26, Vec.cells b), (w.heap.size, 26, Vec.cells a)]) => Vec.cellsAt h.blk2
      have hc3 := fun (wx : World) (h : Mem w wx [(w.heap.size + 1 + 1 + 1, 26, Vec.cells o), (w.heap.size + 1 + 1, 26, Vec.cells c), (w.heap.size + 1, 26, Vec.cells b), (w.heap.size, 26, Vec.cells a)]) => Vec.cellsAt h.blk1
      have Hab2 : Hid (∀ w, Calls Try.prog 18 #[.agg #[.int .i64 a.ep, .bool (a.h 0), .bool (a.h 1), .bool (a.h 2), .bool (a.h 3), .int .u64 (a.t 0), .int .u64 (a.t 1), .int .u64 (a.t 2), .int .u64 (a.t 3)], .agg #[.int .i64 b.ep, .bool (b.h 0), .bool (b.h 1), .bool (b.h 2), .bool (b.h 3), .int .u64 (b.t 0), .int .u64 (b.t 1), .int .u64 (b.t 2), .int .u64 (b.t 3)]] w fun e w' => e = .returned (.agg #[.int .i64 ab.ep, .bool (ab.h 0), .bool (ab.h 1), .bool (ab.h 2), .bool (ab.h 3), .int .u64 (ab.t 0), .int .u64 (ab.t 1), .int .u64 (ab.t 2), .int .u64 (ab.t 3)]) ∧ Below w.heap.size w w') := Hab
      have Hm3 : Hid (∀ w, Calls Try.prog 18 #[.agg #[.int .i64 ab.ep, .bool (ab.h 0), .bool (ab.h 1), .bool (ab.h 2), .bool (ab.h 3), .int .u64 (ab.t 0), .int .u64 (ab.t 1), .int .u64 (ab.t 2), .int .u64 (ab.t 3)], .agg #[.int .i64 c.ep, .bool (c.h 0), .bool (c.h 1), .bool (c.h 2), .bool (c.h 3), .int .u64 (c.t 0), .int .u64 (c.t 1), .int .u64 (c.t 2), .int .u64 (c.t 3)]] w fun e w' => e = .returned (.agg #[.int .i64 m.ep, .bool (m.h 0), .bool (m.h 1), .bool (m.h 2), .bool (m.h 3), .int .u64 (m.t 0), .int .u64 (m.t 1), .int .u64 (m.t 2), .int .u64 (m.t 3)]) ∧ Below w.heap.size w w') := Hm
      go_region_held3 (fun wx => Mem w wx [(w.heap.size + 1 + 1 + 1, 26, Vec.cells o), (w.heap.size + 1 + 1, 26, Vec.cells c), (w.heap.size + 1, 26, Vec.cells b), (w.heap.size, 26, Vec.cells a)])
        (first | with_reducible exact (unhide HM6).drew | with_reducible exact ((unhide HM6).other _).drew | with_reducible exact unhide HM7 | with_reducible exact (unhide HM7).other _ | with_reducible exact unhide HM8 | with_reducible exact (unhide HM8).other _ | with_reducible exact (unhide HB2).set0.set0.set0.set0.set0.set0.set0.set0.set0.tail | fail)
        (first
          | (go_at_call_of 18 (b.ep); refine (unhide Hab2 _).mono ?_; rintro _ w6 ⟨rfl, hb6⟩;
             first
               | (have HB := hide (((unhide HM6).new (t := 26) (cs := Vec.cells Vec.zero) wc.heap.size rfl).drew.called hb6); have HM7 := hide (unhide HB).tail; clear hb6)
               | (have HM7 := hide ((unhide HM6).drew.called hb6); clear hb6))
          | (go_at_call_of 18 (c.ep); refine (unhide Hm3 _).mono ?_; rintro _ w7 ⟨rfl, hb7⟩;
             first
               | (have HB2 := hide ((unhide HB).called hb7); have HM8 := hide (unhide HB2).tail; have fc := Vec.cellsAt (unhide HB2).blk0; have ff := Vec.frozenAt (unhide HB2).blk0; clear hb7)
               | (have HB2 := hide (((unhide HM7).new (t := 26) (cs := Vec.cells Vec.zero) w6.heap.size rfl).called hb7); have HM8 := hide (unhide HB2).tail; have fc := Vec.cellsAt (unhide HB2).blk0; have ff := Vec.frozenAt (unhide HB2).blk0; clear hb7)
               | (have HM8 := hide ((unhide HM7).called hb7); clear hb7)))
      all_goals go_wp2_with fail
      all_goals go_meet
      · exact ⟨w7.heap.size, rfl, (unhide HM8).new (cs := Vec.cells m) w7.heap.size rfl⟩
      all_goals exact ⟨_, rfl, (unhide HB2).set0.set0.set0.set0.set0.set0.set0.set0.set0.as0 (Vec.setAllOn Vec.zero m)⟩
    case rest =>
      obtain ⟨g, rfl, hcut⟩ := hcut
      have HM7 := hide hcut
      clear hcut HM6
      go_wp2_with fail
      have hl0 := fun x : SinceW wc.heap.size wc => Vec.cellsAt ((unhide HM7).called x.h).blk0
      have hl2 := fun x : SinceW wc.heap.size wc => Vec.cellsAt ((unhide HM7).called x.h).blk2
      have hl3 := fun x : SinceW wc.heap.size wc => Vec.cellsAt ((unhide HM7).called x.h).blk3
      have hl4 := fun x : SinceW wc.heap.size wc => Vec.cellsAt ((unhide HM7).called x.h).blk4
      refine wp_region_since (B := wc.heap.size) (by kernel_rfl) (by kernel_rfl) ?_
      repeat (first
        | (go_big_quiet_want; refine quiet_neq (T := 26) _ _ _ rfl rfl rfl (by kernel_rfl) (fun w => Vec.eqlIn 26 rfl rfl _ w _ rfl) ?_
           simp only [Act.put, List.setIfInBounds_toArray, List.set_cons_succ, List.set_cons_zero, Bool.not_true]; go_big_quiet_on)
        | go_big_quiet_step (first
            | (go_at_call_of 18 bc; exact calls_since _ (Nat.le_refl _) (unhide Hm2 _))
            | (go_at_call_of 18 (b.ep); exact calls_since _ (Nat.le_refl _) (unhide Hbc _))
            | (go_at_call_of 10 (a.ep); exact calls_since _ (Nat.le_refl _) (unhide Hpa _))
            | (go_at_call_of 10 (b.ep); exact calls_since _ (Nat.le_refl _) (unhide Hpb _))
            | (go_at_call_of 10 (c.ep); exact calls_since _ (Nat.le_refl _) (unhide Hpc _))
            | (go_at_call_of 20 pa; exact calls_since _ (Nat.le_refl _) (unhide H1 _))
            | (go_at_call_of 20 pb; exact calls_since _ (Nat.le_refl _) (unhide H2 _))
            | (go_at_call_of 20 pc; exact calls_since _ (Nat.le_refl _) (unhide H3 _))))
      refine wpQuiet_nil ?_
      rintro _ ⟨⟨w8, hb⟩, rfl⟩
      have HMc := hide ((unhide HM7).called hb)
      clear hl0 hl2 hl3 hl4 hb HM7
      go_wp2_with (refine wpList_load_blk rfl 26 (.tmp 7) rfl (w.heap.size + 1 + 1 + 1) rfl 26 _ _ ((unhide HMc).blk1) Try.underlying26 rfl (by kernel_rfl) ?_)
      refine (unhide Hpo _).mono ?_; rintro _ w9 ⟨rfl, hb⟩; have HMd := hide ((unhide HMc).called hb); clear hb
      clear HMc
      have hl := unhide HLL
      cases la with
      | false =>
        go_wp2_with (first
          | (refine wpList_store_blk rfl 26 (.tmp 7) (.tmp 54) rfl (w.heap.size + 1 + 1 + 1) _ rfl rfl 26 _ (unhide HMd).blk1 (by kernel_rfl) rfl (Vec.cells_one _) ?_; intro w10 hbS hgS; have HMc := hide ((unhide HMd).grown1 hbS hgS); clear hbS hgS; clear HMd)
          | (refine wpList_load_blk rfl 26 (.tmp 4) rfl (w.heap.size) rfl 26 _ _ ((unhide HMc).blk4) Try.underlying26 rfl (by kernel_rfl) ?_)
          | (refine wpList_load_blk rfl 26 (.tmp 5) rfl (w.heap.size + 1) rfl 26 _ _ ((unhide HMc).blk3) Try.underlying26 rfl (by kernel_rfl) ?_)
          | (refine wpList_load_blk rfl 26 (.tmp 6) rfl (w.heap.size + 1 + 1) rfl 26 _ _ ((unhide HMc).blk2) Try.underlying26 rfl (by kernel_rfl) ?_)
          | (refine wpList_load_blk rfl 26 (.tmp 7) rfl (w.heap.size + 1 + 1 + 1) rfl 26 _ _ ((unhide HMc).blk1) Try.underlying26 rfl (by kernel_rfl) ?_)
          | (refine wpList_load_blk rfl 26 (.tmp 9) rfl (g) rfl 26 _ _ ((unhide HMc).blk0) Try.underlying26 rfl (by kernel_rfl) ?_)
          | (go_at_call_of 20 (Vec.cells a); refine (unhide H4 _).mono ?_; rintro _ wn ⟨rfl, hb⟩; have HMc := hide ((unhide HMc).called hb); clear hb; have fb := Vec.cellsAt (unhide HMc).blk3; have fc := Vec.cellsAt (unhide HMc).blk2; have fo := Vec.cellsAt (unhide HMc).blk1; have fm := Vec.cellsAt (unhide HMc).blk0)
          | (go_at_call_of 20 (b.ep); refine (unhide H5 _).mono ?_; rintro _ wn ⟨rfl, hb⟩; have HMc := hide ((unhide HMc).called hb); clear hb; have fb := Vec.cellsAt (unhide HMc).blk3; have fc := Vec.cellsAt (unhide HMc).blk2; have fo := Vec.cellsAt (unhide HMc).blk1; have fm := Vec.cellsAt (unhide HMc).blk0)
          | (go_at_call_of 20 (c.ep); refine (unhide H6 _).mono ?_; rintro _ wn ⟨rfl, hb⟩; have HMc := hide ((unhide HMc).called hb); clear hb; have fb := Vec.cellsAt (unhide HMc).blk3; have fc := Vec.cellsAt (unhide HMc).blk2; have fo := Vec.cellsAt (unhide HMc).blk1; have fm := Vec.cellsAt (unhide HMc).blk0)
          | (go_at_call_of 20 (m.ep); refine (unhide H7 _).mono ?_; rintro _ wn ⟨rfl, hb⟩; have HMc := hide ((unhide HMc).called hb); clear hb; have fb := Vec.cellsAt (unhide HMc).blk3; have fc := Vec.cellsAt (unhide HMc).blk2; have fo := Vec.cellsAt (unhide HMc).blk1; have fm := Vec.cellsAt (unhide HMc).blk0)
          | (go_at_call 9; refine (unhide HA _).mono ?_; rintro _ wn ⟨rfl, hb⟩; have HMc := hide ((unhide HMc).called hb); clear hb; have fb := Vec.cellsAt (unhide HMc).blk3; have fc := Vec.cellsAt (unhide HMc).blk2; have fo := Vec.cellsAt (unhide HMc).blk1; have fm := Vec.cellsAt (unhide HMc).blk0))
        go_ret
        exact ⟨rfl, (unhide HMc).below⟩
      | true =>
        cases lb with
        | false =>
          go_wp2_with (first
            | (refine wpList_store_blk rfl 26 (.tmp 7) (.tmp 54) rfl (w.heap.size + 1 + 1 + 1) _ rfl rfl 26 _ (unhide HMd).blk1 (by kernel_rfl) rfl (Vec.cells_one _) ?_; intro w10 hbS hgS; have HMc := hide ((unhide HMd).grown1 hbS hgS); clear hbS hgS; clear HMd)
            | (refine wpList_load_blk rfl 26 (.tmp 4) rfl (w.heap.size) rfl 26 _ _ ((unhide HMc).blk4) Try.underlying26 rfl (by kernel_rfl) ?_)
            | (refine wpList_load_blk rfl 26 (.tmp 5) rfl (w.heap.size + 1) rfl 26 _ _ ((unhide HMc).blk3) Try.underlying26 rfl (by kernel_rfl) ?_)
            | (refine wpList_load_blk rfl 26 (.tmp 6) rfl (w.heap.size + 1 + 1) rfl 26 _ _ ((unhide HMc).blk2) Try.underlying26 rfl (by kernel_rfl) ?_)
            | (refine wpList_load_blk rfl 26 (.tmp 7) rfl (w.heap.size + 1 + 1 + 1) rfl 26 _ _ ((unhide HMc).blk1) Try.underlying26 rfl (by kernel_rfl) ?_)
            | (refine wpList_load_blk rfl 26 (.tmp 9) rfl (g) rfl 26 _ _ ((unhide HMc).blk0) Try.underlying26 rfl (by kernel_rfl) ?_)
            | (go_at_call_of 20 (Vec.cells a); refine (unhide H4 _).mono ?_; rintro _ wn ⟨rfl, hb⟩; have HMc := hide ((unhide HMc).called hb); clear hb; have fb := Vec.cellsAt (unhide HMc).blk3; have fc := Vec.cellsAt (unhide HMc).blk2; have fo := Vec.cellsAt (unhide HMc).blk1; have fm := Vec.cellsAt (unhide HMc).blk0)
            | (go_at_call_of 20 (b.ep); refine (unhide H5 _).mono ?_; rintro _ wn ⟨rfl, hb⟩; have HMc := hide ((unhide HMc).called hb); clear hb; have fb := Vec.cellsAt (unhide HMc).blk3; have fc := Vec.cellsAt (unhide HMc).blk2; have fo := Vec.cellsAt (unhide HMc).blk1; have fm := Vec.cellsAt (unhide HMc).blk0)
            | (go_at_call_of 20 (c.ep); refine (unhide H6 _).mono ?_; rintro _ wn ⟨rfl, hb⟩; have HMc := hide ((unhide HMc).called hb); clear hb; have fb := Vec.cellsAt (unhide HMc).blk3; have fc := Vec.cellsAt (unhide HMc).blk2; have fo := Vec.cellsAt (unhide HMc).blk1; have fm := Vec.cellsAt (unhide HMc).blk0)
            | (go_at_call_of 20 (m.ep); refine (unhide H7 _).mono ?_; rintro _ wn ⟨rfl, hb⟩; have HMc := hide ((unhide HMc).called hb); clear hb; have fb := Vec.cellsAt (unhide HMc).blk3; have fc := Vec.cellsAt (unhide HMc).blk2; have fo := Vec.cellsAt (unhide HMc).blk1; have fm := Vec.cellsAt (unhide HMc).blk0)
            | (go_at_call 9; refine (unhide HA _).mono ?_; rintro _ wn ⟨rfl, hb⟩; have HMc := hide ((unhide HMc).called hb); clear hb; have fb := Vec.cellsAt (unhide HMc).blk3; have fc := Vec.cellsAt (unhide HMc).blk2; have fo := Vec.cellsAt (unhide HMc).blk1; have fm := Vec.cellsAt (unhide HMc).blk0))
          go_ret
          exact ⟨rfl, (unhide HMc).below⟩
        | true =>
          cases lc with
          | false =>
            go_wp2_with (first
              | (refine wpList_store_blk rfl 26 (.tmp 7) (.tmp 54) rfl (w.heap.size + 1 + 1 + 1) _ rfl rfl 26 _ (unhide HMd).blk1 (by kernel_rfl) rfl (Vec.cells_one _) ?_; intro w10 hbS hgS; have HMc := hide ((unhide HMd).grown1 hbS hgS); clear hbS hgS; clear HMd)
              | (refine wpList_load_blk rfl 26 (.tmp 4) rfl (w.heap.size) rfl 26 _ _ ((unhide HMc).blk4) Try.underlying26 rfl (by kernel_rfl) ?_)
              | (refine wpList_load_blk rfl 26 (.tmp 5) rfl (w.heap.size + 1) rfl 26 _ _ ((unhide HMc).blk3) Try.underlying26 rfl (by kernel_rfl) ?_)
              | (refine wpList_load_blk rfl 26 (.tmp 6) rfl (w.heap.size + 1 + 1) rfl 26 _ _ ((unhide HMc).blk2) Try.underlying26 rfl (by kernel_rfl) ?_)
              | (refine wpList_load_blk rfl 26 (.tmp 7) rfl (w.heap.size + 1 + 1 + 1) rfl 26 _ _ ((unhide HMc).blk1) Try.underlying26 rfl (by kernel_rfl) ?_)
              | (refine wpList_load_blk rfl 26 (.tmp 9) rfl (g) rfl 26 _ _ ((unhide HMc).blk0) Try.underlying26 rfl (by kernel_rfl) ?_)
              | (go_at_call_of 20 (Vec.cells a); refine (unhide H4 _).mono ?_; rintro _ wn ⟨rfl, hb⟩; have HMc := hide ((unhide HMc).called hb); clear hb; have fb := Vec.cellsAt (unhide HMc).blk3; have fc := Vec.cellsAt (unhide HMc).blk2; have fo := Vec.cellsAt (unhide HMc).blk1; have fm := Vec.cellsAt (unhide HMc).blk0)
              | (go_at_call_of 20 (b.ep); refine (unhide H5 _).mono ?_; rintro _ wn ⟨rfl, hb⟩; have HMc := hide ((unhide HMc).called hb); clear hb; have fb := Vec.cellsAt (unhide HMc).blk3; have fc := Vec.cellsAt (unhide HMc).blk2; have fo := Vec.cellsAt (unhide HMc).blk1; have fm := Vec.cellsAt (unhide HMc).blk0)
              | (go_at_call_of 20 (c.ep); refine (unhide H6 _).mono ?_; rintro _ wn ⟨rfl, hb⟩; have HMc := hide ((unhide HMc).called hb); clear hb; have fb := Vec.cellsAt (unhide HMc).blk3; have fc := Vec.cellsAt (unhide HMc).blk2; have fo := Vec.cellsAt (unhide HMc).blk1; have fm := Vec.cellsAt (unhide HMc).blk0)
              | (go_at_call_of 20 (m.ep); refine (unhide H7 _).mono ?_; rintro _ wn ⟨rfl, hb⟩; have HMc := hide ((unhide HMc).called hb); clear hb; have fb := Vec.cellsAt (unhide HMc).blk3; have fc := Vec.cellsAt (unhide HMc).blk2; have fo := Vec.cellsAt (unhide HMc).blk1; have fm := Vec.cellsAt (unhide HMc).blk0)
              | (go_at_call 9; refine (unhide HA _).mono ?_; rintro _ wn ⟨rfl, hb⟩; have HMc := hide ((unhide HMc).called hb); clear hb; have fb := Vec.cellsAt (unhide HMc).blk3; have fc := Vec.cellsAt (unhide HMc).blk2; have fo := Vec.cellsAt (unhide HMc).blk1; have fm := Vec.cellsAt (unhide HMc).blk0))
            go_ret
            exact ⟨rfl, (unhide HMc).below⟩
          | true =>
            obtain rfl : lm = true := hl rfl rfl rfl
            clear hl
            go_wp2_with (first
              | (refine wpList_store_blk rfl 26 (.tmp 7) (.tmp 54) rfl (w.heap.size + 1 + 1 + 1) _ rfl rfl 26 _ (unhide HMd).blk1 (by kernel_rfl) rfl (Vec.cells_one _) ?_; intro w10 hbS hgS; have HMc := hide ((unhide HMd).grown1 hbS hgS); clear hbS hgS; clear HMd)
              | (refine wpList_load_blk rfl 26 (.tmp 4) rfl (w.heap.size) rfl 26 _ _ ((unhide HMc).blk4) Try.underlying26 rfl (by kernel_rfl) ?_)
              | (refine wpList_load_blk rfl 26 (.tmp 5) rfl (w.heap.size + 1) rfl 26 _ _ ((unhide HMc).blk3) Try.underlying26 rfl (by kernel_rfl) ?_)
              | (refine wpList_load_blk rfl 26 (.tmp 6) rfl (w.heap.size + 1 + 1) rfl 26 _ _ ((unhide HMc).blk2) Try.underlying26 rfl (by kernel_rfl) ?_)
              | (refine wpList_load_blk rfl 26 (.tmp 7) rfl (w.heap.size + 1 + 1 + 1) rfl 26 _ _ ((unhide HMc).blk1) Try.underlying26 rfl (by kernel_rfl) ?_)
              | (refine wpList_load_blk rfl 26 (.tmp 9) rfl (g) rfl 26 _ _ ((unhide HMc).blk0) Try.underlying26 rfl (by kernel_rfl) ?_)
              | (go_at_call_of 20 (Vec.cells a); refine (unhide H4 _).mono ?_; rintro _ wn ⟨rfl, hb⟩; have HMc := hide ((unhide HMc).called hb); clear hb; have fb := Vec.cellsAt (unhide HMc).blk3; have fc := Vec.cellsAt (unhide HMc).blk2; have fo := Vec.cellsAt (unhide HMc).blk1; have fm := Vec.cellsAt (unhide HMc).blk0)
              | (go_at_call_of 20 (b.ep); refine (unhide H5 _).mono ?_; rintro _ wn ⟨rfl, hb⟩; have HMc := hide ((unhide HMc).called hb); clear hb; have fb := Vec.cellsAt (unhide HMc).blk3; have fc := Vec.cellsAt (unhide HMc).blk2; have fo := Vec.cellsAt (unhide HMc).blk1; have fm := Vec.cellsAt (unhide HMc).blk0)
              | (go_at_call_of 20 (c.ep); refine (unhide H6 _).mono ?_; rintro _ wn ⟨rfl, hb⟩; have HMc := hide ((unhide HMc).called hb); clear hb; have fb := Vec.cellsAt (unhide HMc).blk3; have fc := Vec.cellsAt (unhide HMc).blk2; have fo := Vec.cellsAt (unhide HMc).blk1; have fm := Vec.cellsAt (unhide HMc).blk0)
              | (go_at_call_of 20 (m.ep); refine (unhide H7 _).mono ?_; rintro _ wn ⟨rfl, hb⟩; have HMc := hide ((unhide HMc).called hb); clear hb; have fb := Vec.cellsAt (unhide HMc).blk3; have fc := Vec.cellsAt (unhide HMc).blk2; have fo := Vec.cellsAt (unhide HMc).blk1; have fm := Vec.cellsAt (unhide HMc).blk0)
              | (go_at_call 9; refine (unhide HA _).mono ?_; rintro _ wn ⟨rfl, hb⟩; have HMc := hide ((unhide HMc).called hb); clear hb; have fb := Vec.cellsAt (unhide HMc).blk3; have fc := Vec.cellsAt (unhide HMc).blk2; have fo := Vec.cellsAt (unhide HMc).blk1; have fm := Vec.cellsAt (unhide HMc).blk0))
            go_ret
            exact ⟨rfl, (unhide HMc).below⟩

theorem vecLeasts_any (a b c o : Vec.V) (pa : Vec.Ok a) (pb : Vec.Ok b) (pc : Vec.Ok c) (po : Vec.Ok o) (w : World) :
    Calls Try.prog 6 #[Vec.val a, Vec.val b, Vec.val c, Vec.val o] w fun e w' => e = .returned (.bool true) ∧ Below w.heap.size w w' := by
  have qa : Vec.Pos a := fun i _ => (pa.t i).1
  have qb : Vec.Pos { b with ep := a.ep } := fun i _ => (pb.t i).1
  have qc : Vec.Pos { c with ep := a.ep } := fun i _ => (pc.t i).1
  have qo : Vec.Pos { o with ep := a.ep } := fun i _ => (po.t i).1
  obtain ⟨l1, l2, l3, l4⟩ := Vec.leasts (a := a) (b := { b with ep := a.ep }) (c := { c with ep := a.ep }) (o := { o with ep := a.ep }) rfl rfl qa qb qc qo
  have has := Vec.merge_assoc (a := a) (b := { b with ep := a.ep }) (c := { c with ep := a.ep }) rfl rfl qa qb qc
  refine vecLeasts_walk a b c o _ _ _ _ _ _ rfl rfl rfl _ _ _ _ (merge_any a _) (merge_any _ _) _ (merge_any _ _) (fun w => ?_) _ _ _ (plain_any a) (plain_any _) (plain_any _) (plain_any _)
    (fun w => ?_) (fun w => ?_) (fun w => ?_) (leq_any a _) (leq_any _ _) (leq_any _ _) (leq_any _ _) l4 w
  · rw [show Vec.val (Vec.merge (Vec.merge a { b with ep := a.ep }) { c with ep := a.ep }) = Vec.val (Vec.merge a (Vec.merge { b with ep := a.ep } { c with ep := a.ep })) from congrArg Value.agg has]
    exact merge_any _ _ w
  · rw [← l1]; exact leq_any _ _ w
  · rw [← l2]; exact leq_any _ _ w
  · rw [← l3]; exact leq_any _ _ w
end Go.Proofs.Ytmdjcpghghlpkaa
