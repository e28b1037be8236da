/- The walks of vec: Resize, New. -/
import Derived.Test.YtmogoockhlfabaaVecWalk
namespace Go.Proofs.Ytmogoockhlfabaa
set_option linter.unusedVariables false
open Go.RowKit

/-- Resize's answer: a vector and an error -/
def Vec.resize (v : Vec.V) (ep : Int) (has : Nat → Bool) : Vec.V × Int := if ep ≤ v.ep then (Vec.zero, 11) else (Vec.resized v ep has, 0)

theorem ret_cell_tmp {fn : Func} {R : Ending → World → Prop} {a : Act} {w : World} {p u : Tmp} {ty : TypeId} (h : fn.results = #[.cell p ty, .tmp u]) (g : Nat) (cs : Array Value)
    (hp : a.tmps.getD p undef = .pointer (some ⟨g, 0, none⟩)) (hl : (loadVar ty ⟨g, 0, none⟩).run Try.prog w = .ok (.agg cs) w)
    (hdf : a.defers = []) (hR : R (.returned (.tuple #[.agg cs, a.tmps.getD u undef])) w) : bodyPost Try.prog fn R .ret a w :=
  bodyPost_ret (v := .tuple #[.agg cs, a.tmps.getD u undef]) (by
    rw [results_cell_tmp h, hp]
    simp [asAddr, hl]) hdf hR

theorem blk_new3 (w : World) (o o' : Obj) (t : TypeId) (cs : Array Value) : Blk (((w.alloc o).alloc o').alloc (.cells cs t)) (w.heap.size + 1 + 1) t cs := by
  have h := Blk.new ((w.alloc o).alloc o') t cs
  have e : ((w.alloc o).alloc o').heap.size = w.heap.size + 1 + 1 := by simp
  rw [e] at h
  exact h

theorem Vec.setEH {w : World} {g : Nat} {t : TypeId} {u : Vec.V} (h : Blk w g t (Vec.cells u)) (ep : Int) (has : Nat → Bool) :
    Blk (((((w.setCell ⟨g, 0, none⟩ (.int .i64 ep)).setCell ⟨g, 1, none⟩ (.bool (has 0))).setCell ⟨g, 2, none⟩ (.bool (has 1))).setCell ⟨g, 3, none⟩ (.bool (has 2))).setCell ⟨g, 4, none⟩ (.bool (has 3))) g t (Vec.cells { u with ep := ep, h := has }) := by
  have h1 := ((((h.set_ 0 (.int .i64 ep)).set_ 1 (.bool (has 0))).set_ 2 (.bool (has 1))).set_ 3 (.bool (has 2))).set_ 4 (.bool (has 3))
  simpa [Vec.cells] using h1

set_option maxHeartbeats 1000000 in
theorem resize_no (v : Vec.V) (ep : Int) (has : Nat → Bool) (w : World) (h : ep ≤ v.ep) :
    Calls Try.prog 24 #[Vec.val v, .int .i64 ep, .agg #[.bool (has 0), .bool (has 1), .bool (has 2), .bool (has 3)]] w fun e w' => e = .returned (.tuple #[Vec.val Vec.zero, .int .i64 11]) ∧ Below w.heap.size w w' := by
  have fE : (((w.alloc (.cells (Vec.cells v) 42)).alloc (.cells #[.bool (has 0), .bool (has 1), .bool (has 2), .bool (has 3)] 22)).alloc (.cells #[.int .i64 0, .bool false, .bool false, .bool false, .bool false, .int .u64 0, .int .u64 0, .int .u64 0, .int .u64 0] 42) : World).cell? ⟨w.heap.size, 0, none⟩ = some (.int .i64 v.ep) := Vec.atE (((Blk.new w 42 (Vec.cells v)).alloc (.cells #[.bool (has 0), .bool (has 1), .bool (has 2), .bool (has 3)] 22)).alloc (.cells #[.int .i64 0, .bool false, .bool false, .bool false, .bool false, .int .u64 0, .int .u64 0, .int .u64 0, .int .u64 0] 42))
  go_enter Try.func24, Try.ntmps24
  go_wp2
  refine ret_cell_tmp rfl (w.heap.size + 1 + 1) _ rfl (run_loadVar_row _ _ 42 42 _ (0, 0) _ (blk_new3 w _ _ 42 (Vec.cells Vec.zero)) Try.underlying42 rfl (by kernel_rfl)) rfl ⟨rfl, ?_⟩
  exact (((Below.refl _ _).alloc (Nat.le_refl _) _).alloc (by simp) _).alloc (by simp; omega) _
set_option maxHeartbeats 1000000 in
theorem resize_yes (v : Vec.V) (ep : Int) (has : Nat → Bool) (w : World) (h : v.ep < ep) :
    Calls Try.prog 24 #[Vec.val v, .int .i64 ep, .agg #[.bool (has 0), .bool (has 1), .bool (has 2), .bool (has 3)]] w fun e w' => e = .returned (.tuple #[Vec.val (Vec.resized v ep has), .int .i64 0]) ∧ Below w.heap.size w w' := by
  have fB := (((Blk.new w 42 (Vec.cells v)).alloc (.cells #[.bool (has 0), .bool (has 1), .bool (has 2), .bool (has 3)] 22)).alloc (.cells #[.int .i64 0, .bool false, .bool false, .bool false, .bool false, .int .u64 0, .int .u64 0, .int .u64 0, .int .u64 0] 42))
  have fE : (((w.alloc (.cells (Vec.cells v) 42)).alloc (.cells #[.bool (has 0), .bool (has 1), .bool (has 2), .bool (has 3)] 22)).alloc (.cells #[.int .i64 0, .bool false, .bool false, .bool false, .bool false, .int .u64 0, .int .u64 0, .int .u64 0, .int .u64 0] 42) : World).cell? ⟨w.heap.size, 0, none⟩ = some (.int .i64 v.ep) := Vec.atE fB
  have FB := hide fB
  clear fB
  go_enter Try.func24, Try.ntmps24
  go_wp2_with (refine wpList_load_blk rfl 42 (.tmp 3) rfl (w.heap.size) rfl 42 _ _ (unhide FB) Try.underlying42 rfl (by kernel_rfl) ?_)
  refine (plain_any v _).mono ?_
  rintro e w1 ⟨rfl, hb1⟩
  have hv := (unhide FB).below hb1 (by simp; omega)
  have hh := ((blk_new2 w (.cells (Vec.cells v) 42) 22 #[.bool (has 0), .bool (has 1), .bool (has 2), .bool (has 3)]).alloc (.cells #[.int .i64 0, .bool false, .bool false, .bool false, .bool false, .int .u64 0, .int .u64 0, .int .u64 0, .int .u64 0] 42)).below hb1 (by simp)
  have hz := (blk_new3 w (.cells (Vec.cells v) 42) (.cells #[.bool (has 0), .bool (has 1), .bool (has 2), .bool (has 3)] 22) 42 (Vec.cells Vec.zero)).below hb1 (by simp)
  have HE := hide ((((Below.refl w.heap.size w).alloc (Nat.le_refl _) (.cells (Vec.cells v) 42)).alloc (by simp) (.cells #[.bool (has 0), .bool (has 1), .bool (has 2), .bool (has 3)] 22)).alloc (by simp; omega) (.cells #[.int .i64 0, .bool false, .bool false, .bool false, .bool false, .int .u64 0, .int .u64 0, .int .u64 0, .int .u64 0] 42) |>.trans (hb1.mono (by simp; omega)))
  have HV := hide hv
  have HH := hide hh
  have HZ := hide hz
  clear hb1 hv hz hh fE FB
  go_wp2_with (refine wpList_store_blk rfl 42 (.tmp 3) (.tmp 14) rfl (w.heap.size) _ rfl rfl 42 _ (unhide HV) (by kernel_rfl) rfl (Vec.cells_one _) ?_; intro w2 hb2 hg2)
  have hz2 := (unhide HZ).grown hg2 (by simp; omega)
  have hh2 := (unhide HH).grown hg2 (by simp)
  have he2 := (unhide HE).grown hg2 (unhide HE).size (by simp)
  have c0 := Vec.atE hb2
  have c1 := Vec.atH hb2 (k := 0) (by omega)
  have c2 := Vec.atH hb2 (k := 1) (by omega)
  have c3 := Vec.atH hb2 (k := 2) (by omega)
  have c4 := Vec.atH hb2 (k := 3) (by omega)
  simp only [Nat.reduceAdd] at c1 c2 c3 c4
  have f0 := hb2.frozen 0
  have f1 := hb2.frozen 1
  have f2 := hb2.frozen 2
  have f3 := hb2.frozen 3
  have f4 := hb2.frozen 4
  have d0 : w2.cell? ⟨w.heap.size + 1, 0, none⟩ = some (.bool (has 0)) := hh2.cell 0
  have d1 : w2.cell? ⟨w.heap.size + 1, 1, none⟩ = some (.bool (has 1)) := hh2.cell 1
  have d2 : w2.cell? ⟨w.heap.size + 1, 2, none⟩ = some (.bool (has 2)) := hh2.cell 2
  have d3 : w2.cell? ⟨w.heap.size + 1, 3, none⟩ = some (.bool (has 3)) := hh2.cell 3
  have HB2 := hide hb2
  have HZ2 := hide hz2
  have HE2 := hide he2
  clear hb2 hg2 hz2 hh2 he2
  go_region
  all_goals
    have hb3 := (Vec.setEH (unhide HB2) ep has).drew
    have hz3 : Blk _ (w.heap.size + 1 + 1) 42 (Vec.cells Vec.zero) := ((((((unhide HZ2).far (p := ⟨w.heap.size, 0, none⟩) (by simp; omega) (.int .i64 ep)).far (p := ⟨w.heap.size, 1, none⟩) (by simp; omega) (.bool (has 0))).far (p := ⟨w.heap.size, 2, none⟩) (by simp; omega) (.bool (has 1))).far (p := ⟨w.heap.size, 3, none⟩) (by simp; omega) (.bool (has 2))).far (p := ⟨w.heap.size, 4, none⟩) (by simp; omega) (.bool (has 3))).drew
    have he3 := ((((((unhide HE2).setCell (p := ⟨w.heap.size, 0, none⟩) (Nat.le_refl _) (.int .i64 ep)).setCell (p := ⟨w.heap.size, 1, none⟩) (Nat.le_refl _) (.bool (has 0))).setCell (p := ⟨w.heap.size, 2, none⟩) (Nat.le_refl _) (.bool (has 1))).setCell (p := ⟨w.heap.size, 3, none⟩) (Nat.le_refl _) (.bool (has 2))).setCell (p := ⟨w.heap.size, 4, none⟩) (Nat.le_refl _) (.bool (has 3))).drew
    have HB3 := hide hb3
    have HZ3 := hide hz3
    have HE3 := hide he3
    have hlt3 := hz3.lt
    clear hb3 hz3 he3 c0 c1 c2 c3 c4 d0 d1 d2 d3 f0 f1 f2 f3 f4
    go_wp2_with (refine wpList_load_blk rfl 42 (.tmp 3) rfl (w.heap.size) rfl 42 _ _ (unhide HB3) Try.underlying42 rfl (by kernel_rfl) ?_)
    refine (plain_any _ _).mono ?_
    rintro e w4 ⟨rfl, hb4⟩
    have hz4 := (unhide HZ3).below hb4 hlt3
    have he4 := (unhide HE3).trans (hb4.mono (unhide HE3).size)
    have HZ4 := hide hz4
    have HE4 := hide he4
    clear hb4 hz4 he4 HB3 HZ3 HE3 hlt3
    go_wp2_with (refine wpList_store_blk rfl 42 (.tmp 6) (.tmp 20) rfl (w.heap.size + 1 + 1) _ rfl rfl 42 _ (unhide HZ4) (by kernel_rfl) rfl (Vec.cells_one _) ?_; intro w5 hb5 hg5)
    exact ret_cell_tmp rfl (w.heap.size + 1 + 1) _ rfl (run_loadVar_row _ _ 42 42 _ (0, 0) _ hb5 Try.underlying42 rfl (by kernel_rfl)) rfl ⟨rfl, (unhide HE4).grown hg5 (unhide HE4).size (by simp; omega)⟩

theorem resize_any (v : Vec.V) (ep : Int) (has : Nat → Bool) (w : World) :
    Calls Try.prog 24 #[Vec.val v, .int .i64 ep, .agg (Vec.hasCells has)] w fun e w' => e = .returned (.tuple #[Vec.val (Vec.resize v ep has).1, .int .i64 (Vec.resize v ep has).2]) ∧ Below w.heap.size w w' := by
  unfold Vec.resize
  by_cases h : ep ≤ v.ep
  · rw [if_pos h]
    exact resize_no v ep has w h
  · rw [if_neg h]
    exact resize_yes v ep has w (by omega)
end Go.Proofs.Ytmogoockhlfabaa
