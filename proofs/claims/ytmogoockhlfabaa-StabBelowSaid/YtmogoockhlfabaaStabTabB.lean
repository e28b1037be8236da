/- Told, Join, Leave and New of a table. -/
import Derived.Test.YtmogoockhlfabaaStabTab
namespace Go.Proofs.Ytmogoockhlfabaa
set_option linter.unusedVariables false
open Go.RowKit

theorem vnew_any (ep : Int) (has : Nat → Bool) (w : World) :
    Calls Try.prog 13 #[.int .i64 ep, .agg (Vec.hasCells has)] w fun e w' => e = .returned (Vec.val ⟨ep, has, fun _ => 0⟩) ∧ Below w.heap.size w w' := by
  show Calls Try.prog 13 #[.int .i64 ep, .agg #[.bool (has 0), .bool (has 1), .bool (has 2), .bool (has 3)]] w _
  have HM := hide (((Mem.start w).new (t := 22) (cs := Vec.hasCells has) w.heap.size rfl).new (t := 42) (cs := Vec.cells ⟨ep, has, fun _ => 0⟩) (w.heap.size + 1) (by simp))
  go_enter Try.func13, Try.ntmps13
  go_wp2
  refine bodyPost_ret (results_cell_row rfl _ _ (w.heap.size + 1) 42 _ (0, 0) _ rfl (unhide HM).blk0 Try.underlying42 rfl (by kernel_rfl)) rfl ⟨rfl, (unhide HM).below⟩

def heard (s : Tb) (dc ep t : Int) : Tb := if dc = s.dc ∨ ep < s.known.ep then s else settled { s with known := Vec.raise s.known dc t }
set_option maxHeartbeats 2000000 in
set_option maxRecDepth 20000 in
theorem told_any (B p : Nat) (s : Tb) (dc ep t : Int) (w : World) (h : TabAt w B p s) : Calls Try.prog 16 #[.pointer (some ⟨p, 0, none⟩), .int .i64 dc, .int .i64 ep, .int .u64 t] w fun e w' => e = .returned (.tuple #[]) ∧ TabAt w' B p (heard s dc ep t) ∧ Only (fun k => k = p) w w' := by
  have HB := hide h
  have fc := tabAt h.blk
  by_cases hd : dc = s.dc
  · have f1 : (dc == s.dc) = true := beq_iff_eq.2 hd
    have HD := hide hd
    clear hd
    go_enter Try.func16, Try.ntmps16
    go_wp2_with fail
    refine bodyPost_ret (results_none rfl _ _ _) rfl ⟨rfl, ?_, Only.refl _ _⟩
    unfold heard
    rw [if_pos (.inl (unhide HD))]
    exact unhide HB
  · have f1 : (dc == s.dc) = false := beq_eq_false_iff_ne.2 hd
    have HD := hide hd
    have HR := hide (raise_any s.known dc t w)
    clear hd
    by_cases he : ep < s.known.ep
    · go_enter Try.func16, Try.ntmps16
      go_wp2_with fail
      refine bodyPost_ret (results_none rfl _ _ _) rfl ⟨rfl, ?_, Only.refl _ _⟩
      unfold heard
      rw [if_pos (.inr he)]
      exact unhide HB
    · go_enter Try.func16, Try.ntmps16
      go_upto_region 2 with (first
        | (go_at_call 18; refine (unhide HR).mono ?_; rintro _ w1 ⟨rfl, hb1⟩; have HT1 := hide ((unhide HB).new hb1); have HB1 := hide hb1; clear hb1)
        | (refine wpList_store_mid rfl 42 (.tmp 36) (.tmp 34) rfl p 11 (Vec.cells (Vec.raise s.known dc t)) rfl rfl ((unhide HT1).there (by rw [Vec.cells_size]; omega)) (by kernel_rfl) (Vec.cells_one _) ?_
           have h2 := (unhide HT1).putKnown (Vec.raise s.known dc t); have HT2 := hide h2.1; have HO2 := hide h2.2; clear h2
           generalize w1.setCells p 11 (Vec.cells (Vec.raise s.known dc t)).toList = w2 at HT2 HO2 ⊢))
      have HSE := hide (settle_any B p _ w2 (unhide HT2))
      go_wp2_with (go_at_call 22; refine (unhide HSE).mono ?_; rintro _ w3 ⟨rfl, ht3, ho3⟩)
      refine bodyPost_end (results_none rfl _ _ _) rfl ⟨rfl, ?_, (Only.of_new (unhide HB1)).trans ((unhide HO2).trans ho3)⟩
      unfold heard
      rw [if_neg (fun h => h.elim (unhide HD) (fun h => by omega))]
      exact ht3

def addH (h : Nat → Bool) (d : Nat) (b : Bool) : Nat → Bool := fun i => if i = d then b else h i
theorem cells_addH (h : Nat → Bool) {d : Nat} (b : Bool) (hd : d < 4) : (Vec.hasCells h).setIfInBounds d (.bool b) = Vec.hasCells (addH h d b) := by
  have : d = 0 ∨ d = 1 ∨ d = 2 ∨ d = 3 := by omega
  rcases this with rfl | rfl | rfl | rfl <;> rfl
theorem tab_has {w : World} {p : Nat} {t : TypeId} {s : Tb} (h : Blk w p t (tabCells s)) {d : Nat} (hd : d < 4) : w.cell? ⟨p, 3 + d, none⟩ = some (.bool (s.got.h d)) := by
  have : d = 0 ∨ d = 1 ∨ d = 2 ∨ d = 3 := by omega
  rcases this with rfl | rfl | rfl | rfl <;> exact h.cell _
theorem has_at {w : World} {g : Nat} {t : TypeId} {h : Nat → Bool} (hb : Blk w g t (Vec.hasCells h)) {d : Nat} (hd : d < 4) : w.cell? ⟨g, d, none⟩ = some (.bool (h d)) := by
  have : d = 0 ∨ d = 1 ∨ d = 2 ∨ d = 3 := by omega
  rcases this with rfl | rfl | rfl | rfl <;> exact hb.cell _
theorem hasAt {w : World} {g : Nat} {t : TypeId} {h : Nat → Bool} (hb : Blk w g t (Vec.hasCells h)) :
    w.cell? ⟨g, 0, none⟩ = some (.bool (h 0)) ∧ w.cell? ⟨g, 1, none⟩ = some (.bool (h 1)) ∧ w.cell? ⟨g, 2, none⟩ = some (.bool (h 2)) ∧ w.cell? ⟨g, 3, none⟩ = some (.bool (h 3)) :=
  ⟨hb.cell 0, hb.cell 1, hb.cell 2, hb.cell 3⟩
def joined (s : Tb) (dc ep : Int) : Tb × Int :=
  if dc < 0 ∨ 4 ≤ dc then (s, 1) else if s.got.h dc.toNat = true then (s, 8) else if ep ≤ s.got.ep then (s, 11)
  else ({ s with got := Vec.resized s.got ep (addH s.got.h dc.toNat true), known := ⟨ep, addH s.got.h dc.toNat true, fun _ => 0⟩ }, 0)

set_option maxHeartbeats 4000000 in
set_option maxRecDepth 20000 in
theorem join_any (B p : Nat) (s : Tb) (dc ep : Int) (w : World) (h : TabAt w B p s) : Calls Try.prog 19 #[.pointer (some ⟨p, 0, none⟩), .int .i64 dc, .int .i64 ep] w fun e w' => e = .returned (.int .i64 (joined s dc ep).2) ∧ TabAt w' B p (joined s dc ep).1 ∧ Only (fun k => k = p) w w' := by
  have HB := hide h
  have fc := tabAt h.blk
  unfold joined
  by_cases hin : dc < 0 ∨ 4 ≤ dc
  · rw [if_pos hin]
    go_enter Try.func19, Try.ntmps19
    rcases hin with hin | hin
    all_goals
      go_wp2_with fail
      go_ret
      exact ⟨rfl, unhide HB, Only.refl _ _⟩
  · rw [if_neg hin]
    obtain ⟨d, rfl⟩ : ∃ d : Nat, dc = d := ⟨dc.toNat, by omega⟩
    have hd : d < 4 := by omega
    have fh := tab_has h.blk hd
    rw [Int.toNat_natCast]
    rcases hH : s.got.h d with _ | _
    · rw [hH] at fh
      rw [if_neg (by simp)]
      by_cases he : ep ≤ s.got.ep
      · rw [if_pos he]
        have f2 : decide (ep ≤ s.got.ep) = true := decide_eq_true he
        go_enter Try.func19, Try.ntmps19
        go_wp2_with fail
        go_ret
        exact ⟨rfl, unhide HB, Only.refl _ _⟩
      · rw [if_neg he]
        have f2 : decide (ep ≤ s.got.ep) = false := decide_eq_false he
        have hpl := h.blk.lt
        have hne : p ≠ w.heap.size := Nat.ne_of_lt hpl
        have HM0 := hide ((Mem.start w).new (t := 22) (cs := Vec.hasCells fun _ => false) w.heap.size rfl)
        go_enter Try.func19, Try.ntmps19
        go_upto_region 8 with (refine wpList_store_blk rfl 22 (.tmp 7) (.tmp 36) rfl (w.heap.size) _ (by rfl) (by rfl) 22 _ (unhide HM0).blk0 (by kernel_rfl) (by rfl) (by simp [Value.oneCell']) ?_; intro w1 hbS hgS; have HM1 := hide ((unhide HM0).grown0 hbS hgS); have HGw1 := hide hgS; clear hbS hgS)
        have cg := has_at (unhide HM1).blk0 hd
        have fg := (unhide HM1).blk0.frozen d
        have HM2 := hide (((unhide HM1).set0 (i := d) (v := .bool true)).as0 (cells_addH s.got.h true hd))
        have HT2 := hide ((unhide HB).new (unhide HM2).below)
        clear fc
        go_upto_region 9 with fail
        clear cg fg
        have HZ := hide (fun u : World => resize_yes s.got ep (addH s.got.h d true) u (by omega))
        generalize hu : Vec.resized s.got ep (addH s.got.h d true) = u at HZ ⊢
        have HZ2 : Hid (∀ x : World, Calls Try.prog 24 #[Vec.val s.got, .int .i64 ep, .agg (Vec.hasCells (addH s.got.h d true))] x fun e w' => e = .returned (.tuple #[.agg #[.int .i64 u.ep, .bool (u.h 0), .bool (u.h 1), .bool (u.h 2), .bool (u.h 3), .int .u64 (u.t 0), .int .u64 (u.t 1), .int .u64 (u.t 2), .int .u64 (u.t 3)], .int .i64 0]) ∧ Below x.heap.size x w') := HZ
        have HU := hide hu
        clear hu HZ
        generalize w1.setCell ⟨w.heap.size, d, none⟩ (.bool true) = w2 at HM2 HT2 ⊢
        have fc2 := tabAt (unhide HT2).blk
        have fh2 := hasAt (unhide HM2).blk0
        go_region_law (go_simp; go_at_call 24; refine (unhide HZ2 _).mono ?_; rintro _ w3 ⟨rfl, hb3⟩
                       have HT3 := hide (((unhide HT2).drewN 1).new hb3); have HM3 := hide ((unhide HM2).drew.called hb3); have HB3 := hide hb3
                       have fc3 := tabAt (unhide HT3).blk; have fz3 := tabFz (unhide HT3).blk; clear hb3)
        all_goals
          change Exit.then _ _ _ _ (World.setCells w3 p 2 (Vec.cells u).toList)
          have h4 := (unhide HT3).putGot u
          have HT4 := hide h4.1
          have HO4 := hide h4.2
          have HM4 := hide ((unhide HM3).blk0.only h4.2 (fun e => hne e.symm))
          clear h4
          generalize w3.setCells p 2 (Vec.cells u).toList = w4 at HT4 HO4 HM4 ⊢
        all_goals
          have HO3 : Hid (Only (fun k => k = p) w w4) := hide (((Only.of_new (unhide HM2).below).trans ((Only.refl _ w2).drew.trans (Only.of_new (unhide HB3)))).trans (unhide HO4))
          clear HO4 fc2 fh2 fc3 fz3
          have HN := hide (vnew_any ep (addH s.got.h d true) w4)
          go_wp2_with (first
            | (refine wpList_load_blk rfl 22 (.tmp 7) rfl w.heap.size rfl 22 _ _ (unhide HM4) Try.underlying22 rfl (by kernel_rfl) ?_)
            | (go_at_call 13; refine (unhide HN).mono ?_; rintro _ w5 ⟨rfl, hb5⟩; have HT5 := hide ((unhide HT4).new hb5); have HB5 := hide hb5; clear hb5)
            | (refine wpList_store_mid rfl 42 (.tmp 57) (.tmp 55) rfl p 11 (Vec.cells ⟨ep, addH s.got.h d true, fun _ => 0⟩) rfl rfl ((unhide HT5).there (by rw [Vec.cells_size]; omega)) (by kernel_rfl) (Vec.cells_one _) ?_
               have h6 := (unhide HT5).putKnown ⟨ep, addH s.got.h d true, fun _ => 0⟩; have HT6 := hide h6.1; have HO6 := hide h6.2; clear h6
               generalize w5.setCells p 11 (Vec.cells ⟨ep, addH s.got.h d true, fun _ => 0⟩).toList = w6 at HT6 HO6 ⊢))
          go_ret
          obtain rfl := unhide HU
          exact ⟨rfl, unhide HT6, (unhide HO3).trans ((Only.of_new (unhide HB5)).trans (unhide HO6))⟩
    · rw [hH] at fh
      rw [if_pos rfl]
      go_enter Try.func19, Try.ntmps19
      go_wp2_with fail
      go_ret
      exact ⟨rfl, unhide HB, Only.refl _ _⟩
theorem TabAt.putKnownH {w : World} {B p : Nat} {s : Tb} (h : TabAt w B p s) (hh : Nat → Bool) :
    TabAt (w.setCells p 12 (Vec.hasCells hh).toList) B p { s with known := { s.known with h := hh } } ∧ Only (fun k => k = p) w (w.setCells p 12 (Vec.hasCells hh).toList) := by
  have ho := Only.setCells (S := fun k => k = p) (g := p) rfl (Vec.hasCells hh).toList 12 w
  have hb := h.blk.setCells (Vec.hasCells hh).toList 12
  have e : setsAt (tabCells s) 12 (Vec.hasCells hh).toList = tabCells { s with known := { s.known with h := hh } } := by simp [setsAt, tabCells, Vec.hasCells]
  rw [e] at hb
  exact ⟨h.put hb ho rfl rfl rfl rfl, ho⟩
theorem TabAt.putKnownE {w : World} {B p : Nat} {s : Tb} (h : TabAt w B p s) (e : Int) :
    TabAt (w.setCell ⟨p, 11, none⟩ (.int .i64 e)) B p { s with known := { s.known with ep := e } } ∧ Only (fun k => k = p) w (w.setCell ⟨p, 11, none⟩ (.int .i64 e)) := by
  have ho : Only (fun k => k = p) w (w.setCell ⟨p, 11, none⟩ (.int .i64 e)) := Only.setCell (p := ⟨p, 11, none⟩) (Only.refl (fun k => k = p) w) rfl _
  exact ⟨h.put (h.blk.set_ 11 _) ho rfl rfl rfl rfl, ho⟩
def parted (s : Tb) (dc ep : Int) : Tb × Int :=
  if dc < 0 ∨ 4 ≤ dc then (s, 1) else if s.got.h dc.toNat = false then (s, 7) else if ep ≤ s.got.ep then (s, 11)
  else (settled { s with got := Vec.resized s.got ep (addH s.got.h dc.toNat false), known := Vec.plain { s.known with h := addH s.got.h dc.toNat false } }, 0)

set_option maxHeartbeats 4000000 in
set_option maxRecDepth 20000 in
theorem leave_any (B p : Nat) (s : Tb) (dc ep : Int) (w : World) (h : TabAt w B p s) : Calls Try.prog 20 #[.pointer (some ⟨p, 0, none⟩), .int .i64 dc, .int .i64 ep] w fun e w' => e = .returned (.int .i64 (parted s dc ep).2) ∧ TabAt w' B p (parted s dc ep).1 ∧ Only (fun k => k = p) w w' := by
  have HB := hide h
  have fc := tabAt h.blk
  unfold parted
  by_cases hin : dc < 0 ∨ 4 ≤ dc
  · rw [if_pos hin]
    go_enter Try.func20, Try.ntmps20
    rcases hin with hin | hin
    all_goals
      go_wp2_with fail
      go_ret
      exact ⟨rfl, unhide HB, Only.refl _ _⟩
  · rw [if_neg hin]
    obtain ⟨d, rfl⟩ : ∃ d : Nat, dc = d := ⟨dc.toNat, by omega⟩
    have hd : d < 4 := by omega
    have fh := tab_has h.blk hd
    rw [Int.toNat_natCast]
    rcases hH : s.got.h d with _ | _
    rotate_left
    · rw [hH] at fh
      rw [if_neg (by simp)]
      by_cases he : ep ≤ s.got.ep
      · rw [if_pos he]
        have f2 : decide (ep ≤ s.got.ep) = true := decide_eq_true he
        go_enter Try.func20, Try.ntmps20
        go_wp2_with fail
        go_ret
        exact ⟨rfl, unhide HB, Only.refl _ _⟩
      · rw [if_neg he]
        have f2 : decide (ep ≤ s.got.ep) = false := decide_eq_false he
        have hpl := h.blk.lt
        have hne : p ≠ w.heap.size := Nat.ne_of_lt hpl
        have HM0 := hide ((Mem.start w).new (t := 22) (cs := Vec.hasCells fun _ => false) w.heap.size rfl)
        go_enter Try.func20, Try.ntmps20
        go_upto_region 8 with (refine wpList_store_blk rfl 22 (.tmp 7) (.tmp 38) rfl (w.heap.size) _ (by rfl) (by rfl) 22 _ (unhide HM0).blk0 (by kernel_rfl) (by rfl) (by simp [Value.oneCell']) ?_; intro w1 hbS hgS; have HM1 := hide ((unhide HM0).grown0 hbS hgS); have HGw1 := hide hgS; clear hbS hgS)
        have cg := has_at (unhide HM1).blk0 hd
        have fg := (unhide HM1).blk0.frozen d
        have HM2 := hide (((unhide HM1).set0 (i := d) (v := .bool false)).as0 (cells_addH s.got.h false hd))
        have HT2 := hide ((unhide HB).new (unhide HM2).below)
        clear fc
        go_upto_region 9 with fail
        clear cg fg
        have HZ := hide (fun u : World => resize_yes s.got ep (addH s.got.h d false) u (by omega))
        generalize hu : Vec.resized s.got ep (addH s.got.h d false) = u at HZ ⊢
        have HZ2 : Hid (∀ x : World, Calls Try.prog 24 #[Vec.val s.got, .int .i64 ep, .agg (Vec.hasCells (addH s.got.h d false))] x fun e w' => e = .returned (.tuple #[.agg #[.int .i64 u.ep, .bool (u.h 0), .bool (u.h 1), .bool (u.h 2), .bool (u.h 3), .int .u64 (u.t 0), .int .u64 (u.t 1), .int .u64 (u.t 2), .int .u64 (u.t 3)], .int .i64 0]) ∧ Below x.heap.size x w') := HZ
        have HU := hide hu
        clear hu HZ
        generalize w1.setCell ⟨w.heap.size, d, none⟩ (.bool false) = w2 at HM2 HT2 ⊢
        have fc2 := tabAt (unhide HT2).blk
        have fh2 := hasAt (unhide HM2).blk0
        go_upto_region 10 with fail
        go_region_law (go_simp; go_at_call 24; refine (unhide HZ2 _).mono ?_; rintro _ w3 ⟨rfl, hb3⟩
                       have HT3 := hide (((unhide HT2).drewN 1).new hb3); have HM3 := hide ((unhide HM2).drew.called hb3); have HB3 := hide hb3
                       have fc3 := tabAt (unhide HT3).blk; have fz3 := tabFz (unhide HT3).blk; clear hb3)
        all_goals
          change Exit.then _ _ _ _ (World.setCells w3 p 2 (Vec.cells u).toList)
          have h4 := (unhide HT3).putGot u
          have HT4 := hide h4.1
          have HO4 := hide h4.2
          have HM4 := hide ((unhide HM3).blk0.only h4.2 (fun e => hne e.symm))
          clear h4
          generalize w3.setCells p 2 (Vec.cells u).toList = w4 at HT4 HO4 HM4 ⊢
        all_goals
          have HO3 : Hid (Only (fun k => k = p) w w4) := hide (((Only.of_new (unhide HM2).below).trans ((Only.refl _ w2).drew.trans (Only.of_new (unhide HB3)))).trans (unhide HO4))
          clear HO4 fc2 fh2 fc3 fz3
          have HP := hide (fun x : World => plain_any { s.known with h := addH s.got.h d false } x)
          have hk4 := (hasAt (unhide HM4))
          go_wp2_with (first
            | (refine wpList_load_blk rfl 22 (.tmp 7) rfl w.heap.size rfl 22 _ _ (unhide HM4) Try.underlying22 rfl (by kernel_rfl) ?_)
            | (refine wpList_store_mid rfl 22 (.tmp 63) (.tmp 60) rfl p 12 (Vec.hasCells (addH s.got.h d false)) rfl rfl ((unhide HT4).there (by show 12 + 4 ≤ 21; omega)) (by kernel_rfl) (by simp [Vec.hasCells, Value.oneCell']) ?_
               have h5 := (unhide HT4).putKnownH (addH s.got.h d false); have HT5 := hide h5.1; have HO5 := hide h5.2; clear h5
               generalize w4.setCells p 12 (Vec.hasCells (addH s.got.h d false)).toList = w5 at HT5 HO5 ⊢
               have fc5 := tabAt (unhide HT5).blk)
            | (go_at_call 23; refine (unhide HP _).mono ?_; rintro _ w6 ⟨rfl, hb6⟩; have HT6 := hide ((unhide HT5).new hb6); have HB6 := hide hb6; clear hb6)
            | (refine wpList_store_mid rfl 42 (.tmp 71) (.tmp 69) rfl p 11 (Vec.cells (Vec.plain { s.known with h := addH s.got.h d false })) rfl rfl ((unhide HT6).there (by rw [Vec.cells_size]; omega)) (by kernel_rfl) (Vec.cells_one _) ?_
               have h7 := (unhide HT6).putKnown (Vec.plain { s.known with h := addH s.got.h d false }); have HT7 := hide h7.1; have HO7 := hide h7.2; clear h7
               generalize w6.setCells p 11 (Vec.cells (Vec.plain { s.known with h := addH s.got.h d false })).toList = w7 at HT7 HO7 ⊢
               have fc7 := tabAt (unhide HT7).blk; have fz7 := tabFz (unhide HT7).blk 11
               have h8 := (unhide HT7).putKnownE s.known.ep; have HT8 := hide h8.1; have HO8 := hide h8.2; clear h8)
            | (go_at_call 22; refine (settle_any B p _ _ (unhide HT8)).mono ?_; rintro _ w9 ⟨rfl, ht9, ho9⟩))
          go_ret
          obtain rfl := unhide HU
          exact ⟨rfl, ht9, (unhide HO3).trans ((unhide HO5).trans ((Only.of_new (unhide HB6)).trans ((unhide HO7).trans ((unhide HO8).trans ho9))))⟩
    · rw [hH] at fh
      rw [if_pos rfl]
      go_enter Try.func20, Try.ntmps20
      go_wp2_with fail
      go_ret
      exact ⟨rfl, unhide HB, Only.refl _ _⟩
end Go.Proofs.Ytmogoockhlfabaa
