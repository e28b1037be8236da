/- stab.New, and the calls of a script. -/
import Derived.Test.YtmogoockhlfabaaStabTabB
import Derived.Lib.SmallJoins
namespace Go.Proofs.Ytmogoockhlfabaa
set_option linter.unusedVariables false
open Go.RowKit

theorem u64info : (Try.prog.info? 29).map (fun i => (i.zero, i.size, i.bytes)) = some (some (.int .u64 0), 1, 8) := by kernel_rfl
theorem made_zero64 (n : Nat) : madeCells #[.int .u64 0] n = ((List.replicate n (0 : Int)).map Uv).toArray := by
  have h : madeCells #[.int .u64 0] n = (List.replicate n (Value.int .u64 0)).toArray := by rw [← toList_madeCells_one (.int .u64 0) n]
  rw [h, List.map_replicate]
  rfl
def newT (dc : Int) (A : Option Addr) (n c : Nat) (has : Nat → Bool) : Tb := ⟨dc, A, n, c, List.replicate n 0, ⟨0, has, fun _ => 0⟩, ⟨0, has, fun _ => 0⟩, 0⟩
def badNew (dc n : Int) : Prop := dc < 0 ∨ 4 ≤ dc ∨ n < 1 ∨ 4 < n

set_option maxHeartbeats 2000000 in
set_option maxRecDepth 20000 in
theorem new_bad (dc n : Int) (has : Nat → Bool) (w : World) (h : badNew dc n) : Calls Try.prog 6 #[.int .i64 dc, .int .i64 n, .agg (Vec.hasCells has)] w fun e w' => e = .returned (.tuple #[.pointer none, .int .i64 1]) ∧ Below w.heap.size w w' := by
  unfold badNew at h
  go_enter Try.func6, Try.ntmps6
  by_cases h1 : dc < 0
  · go_wp2_with fail
    go_ret2
    exact ⟨rfl, (Below.refl _ _).alloc (Nat.le_refl _) _⟩
  by_cases h2 : 4 ≤ dc
  · go_wp2_with fail
    go_ret2
    exact ⟨rfl, (Below.refl _ _).alloc (Nat.le_refl _) _⟩
  by_cases h3 : n < 1
  · go_wp2_with fail
    go_ret2
    exact ⟨rfl, (Below.refl _ _).alloc (Nat.le_refl _) _⟩
  have h4 : 4 < n := by omega
  go_wp2_with fail
  go_ret2
  exact ⟨rfl, (Below.refl _ _).alloc (Nat.le_refl _) _⟩

theorem newT_at {w u v : World} {dc : Int} {n : Nat} {has : Nat → Bool} (h1 : Below w.heap.size w u) (h2 : Below (u.alloc (.cells (madeCells #[.int .u64 0] n) 29)).heap.size (u.alloc (.cells (madeCells #[.int .u64 0] n) 29)) v) (h3 : 1 ≤ n) (h4 : n ≤ 4) :
    TabAt (v.alloc (.cells (tabCells (newT dc (some ⟨u.heap.size, 0, none⟩) n n has)) 45)) w.heap.size v.heap.size (newT dc (some ⟨u.heap.size, 0, none⟩) n n has) ∧ Below w.heap.size w (v.alloc (.cells (tabCells (newT dc (some ⟨u.heap.size, 0, none⟩) n n has)) 45)) := by
  have hs := h1.size
  have hs2 := h2.size
  simp at hs2
  have ho := own_new u w.heap.size (madeCells #[.int .u64 0] n) 29 n ((List.replicate n (0 : Int)).map Uv) hs (by simp only [maxLen]; omega) (by rw [made_zero64]; simp) (by rw [made_zero64])
  have ho2 := (own_below ho h2 (fun k hk => (ho.lt k hk).2)).alloc (.cells (tabCells (newT dc (some ⟨u.heap.size, 0, none⟩) n n has)) 45)
  exact ⟨⟨Blk.new v _ _, ho2, by omega, h3, h4⟩, ((h1.alloc hs _).trans (h2.mono (by simp; omega))).alloc (by omega) _⟩
set_option maxHeartbeats 4000000 in
set_option maxRecDepth 20000 in
theorem new_ok (dc : Int) (n : Nat) (has : Nat → Bool) (w : World) (h1 : 0 ≤ dc) (h2 : dc < 4) (h3 : 1 ≤ n) (h4 : n ≤ 4) : Calls Try.prog 6 #[.int .i64 dc, .int .i64 (n : Int), .agg (Vec.hasCells has)] w fun e w' => ∃ p A c, e = .returned (.tuple #[.pointer (some ⟨p, 0, none⟩), .int .i64 0]) ∧
    TabAt w' w.heap.size p (newT dc A n c has) ∧ Below w.heap.size w w' := by
  obtain ⟨i0, hi, hz0, hz1, hz2⟩ := info_parts u64info
  have hmk := fun u : World => run_make (P := Try.prog) u 39 29 i0 (.int .u64 0) Try.underlying39 hi hz0 .i64 .i64 (n : Int) (n : Int) (by omega) (Int.le_refl _) (by rw [hz2]; omega) (by omega)
  simp only [Int.toNat_natCast, hz1] at hmk
  have H5 := hide (Blk.new w 22 (Vec.hasCells has))
  have HN : Hid (∀ u : World, Calls Try.prog 13 #[.int .i64 0, .agg #[.bool (has 0), .bool (has 1), .bool (has 2), .bool (has 3)]] u fun e w' => e = .returned (.agg #[.int .i64 0, .bool (has 0), .bool (has 1), .bool (has 2), .bool (has 3), .int .u64 0, .int .u64 0, .int .u64 0, .int .u64 0]) ∧ Below u.heap.size u w') := hide (fun u => vnew_any 0 has u)
  show Calls Try.prog 6 #[.int .i64 dc, .int .i64 (n : Int), .agg #[.bool (has 0), .bool (has 1), .bool (has 2), .bool (has 3)]] w _
  have H5a : Hid (Blk (w.alloc (.cells #[.bool (has 0), .bool (has 1), .bool (has 2), .bool (has 3)] 22)) w.heap.size 22 (Vec.hasCells has)) := H5
  have fh := hasAt (unhide H5a)
  have hb0 : Hid (Below w.heap.size w (w.alloc (.cells #[.bool (has 0), .bool (has 1), .bool (has 2), .bool (has 3)] 22)).drew) := hide (((Below.refl _ w).alloc (Nat.le_refl _) _).drew)
  go_enter Try.func6, Try.ntmps6
  go_wp2_with fail
  go_region_law (go_simp; go_at_call 13; refine (unhide HN _).mono ?_
                 first
                   | (have _t := hb1; rintro _ w2 ⟨rfl, hb2⟩
                      have fh2 : w2.cell? ⟨w.heap.size, 0, none⟩ = some (.bool (has 0)) ∧ w2.cell? ⟨w.heap.size, 1, none⟩ = some (.bool (has 1)) ∧ w2.cell? ⟨w.heap.size, 2, none⟩ = some (.bool (has 2)) ∧ w2.cell? ⟨w.heap.size, 3, none⟩ = some (.bool (has 3)) := (by first | exact hasAt ((unhide H51).below hb2 (unhide H51).lt) | exact hasAt (((unhide H51).alloc _).below hb2 ((unhide H51).alloc _).lt)))
                   | (rintro _ w1 ⟨rfl, hb1⟩
                      have H51 : Hid (Blk w1 w.heap.size 22 (Vec.hasCells has)) := (by first | exact (unhide H5a).drew.below hb1 (unhide H5a).drew.lt | exact ((unhide H5a).drew.alloc _).below hb1 ((unhide H5a).drew.alloc _).lt)
                      have fh1 := hasAt (unhide H51); have hl1 := (unhide H51).lt))
  all_goals go_wp2_with fail
  all_goals
    go_ret2
    first
      | (have h := newT_at (dc := dc) (has := has) (unhide hb0) (hb1.trans (hb2.mono hb1.size)) h3 h4
         have e : (w.alloc (.cells #[.bool (has 0), .bool (has 1), .bool (has 2), .bool (has 3)] 22)).drew.heap.size = w.heap.size + 1 := (by simp)
         rw [e] at h
         exact ⟨_, _, _, rfl, h⟩)
      | exact ⟨_, _, _, rfl, newT_at (dc := dc) (has := has) ((unhide hb0).trans (hb1.mono (unhide hb0).size)) hb2 h3 h4⟩
      | (have h := newT_at (dc := dc) (has := has) (((unhide hb0).trans (hb1.mono (unhide hb0).size)).trans (hb2.mono ((unhide hb0).trans (hb1.mono (unhide hb0).size)).size)) (Below.refl _ _) h3 h4
         have e : (w2.alloc (.cells (madeCells #[.int .u64 0] n) 29)).heap.size = w2.heap.size + 1 := (by simp)
         rw [e] at h
         exact ⟨_, _, _, rfl, h⟩)
end Go.Proofs.Ytmogoockhlfabaa
