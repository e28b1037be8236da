/- A packet's copy; Look. -/
import Derived.Test.YtbclfiollfagmaaNetOps
import Derived.Test.YtbclfiollfagmaaNumWrite
import Derived.Laws.ResultCell
namespace Go.Proofs.Ytbclfiollfagmaa
set_option linter.unusedVariables false
open Go.RowKit

theorem pkAt {w : World} {g : Nat} {t : TypeId} {A : Option Addr} {n c : Nat} {sp : Bool} (h : Blk w g t #[.slice A n c, .bool sp]) : w.cell? ⟨g, 0, none⟩ = some (.slice A n c) ∧ w.cell? ⟨g, 1, none⟩ = some (.bool sp) := ⟨h.cell 0, h.cell 1⟩
/-- new bytes: a row of their own -/
def NewRow (w w' : World) (b : List UInt8) (A : Option Addr) (c : Nat) : Prop := w'.ownsRow w.heap.size 5 1 (.slice A b.length c) b.length (b.map Bv) ∧ Below w.heap.size w w'
set_option maxHeartbeats 2000000 in
set_option maxRecDepth 20000 in
theorem copied_any (b : List UInt8) (A : Option Addr) (c : Nat) (sp : Bool) (B : Nat) (w : World) (hr : RdB w B A b) (hB : B ≤ w.heap.size) (hb : b.length ≤ 4096) :
    Calls Try.prog 28 #[.agg #[.slice A b.length c, .bool sp]] w fun e w' => ∃ A2 c2, e = .returned (.agg #[.slice A2 b.length c2, .bool sp]) ∧ NewRow w w' b A2 c2 := by
  obtain ⟨i0, hi, hz0, hz1, hz2⟩ := info_parts u8info
  have h0 := (Mem.start w).new (t := 36) (cs := #[.slice A b.length c, .bool sp]) w.heap.size rfl
  have h1 := h0.new (t := 36) (cs := #[.slice none 0 0, .bool false]) (w.heap.size + 1) (by simp)
  have HM1 := hide h1
  have HR1 := hide (hr.below (h1.below.mono hB))
  obtain ⟨w1, hw1⟩ : ∃ u, (w.alloc (.cells #[.slice A b.length c, .bool sp] 36)).alloc (.cells #[.slice none 0 0, .bool false] 36) = u := ⟨_, rfl⟩
  rw [hw1] at HM1 HR1
  go_enter Try.func28, Try.ntmps28
  go_upto_region 1 with fail
  clear h0 h1 hw1 hr
  have fp := pkAt (unhide HM1).blk1
  have fq := pkAt (unhide HM1).blk0
  have z0 := (unhide HM1).blk0.frozen 0
  have z1 := (unhide HM1).blk0.frozen 1
  have hs1 : w.heap.size ≤ w1.heap.size := (unhide HM1).size
  have HRn : Hid (∀ n : Nat, RdB (w1.drewN n) B A b) := hide (fun n => (unhide HR1).drewN n)
  go_region_law (refine step_append_any _ rfl (.const (.slice none 0 0)) (.tmp 4) _ rfl w1.heap.size 5 i0 _ 1 1 Try.underlying31 hi hz0 hz1 hz2 rfl (by omega) _ 0 [] (by rfl) (own_nil _ _ _ _) _ A b.length c _ (by rfl) (unhide HRn _).v (by simp) oneCell_Bv (by simp only [maxLen]; omega) (by omega) (by simp) ?_
                 intro A2 c2 w2 hown2 hg2 hat2 hbel2 hcc2
                 rw [Nat.zero_add, List.nil_append] at hown2; rw [Nat.zero_add] at hcc2 ⊢
                 have hm2 := ((unhide HM1).drewN 0).called (w' := w2) ⟨hbel2.os, hbel2.tape, hbel2.output, hbel2.size, hbel2.block⟩
                 have HO2 := hide hown2; have HM2 := hide hm2; have fp2 := pkAt hm2.blk1; have fq2 := pkAt hm2.blk0; have y0 := hm2.blk0.frozen 0; have y1 := hm2.blk0.frozen 1; clear hown2 hg2 hat2 hbel2 hm2)
  all_goals go_wp2_with fail
  all_goals
    have m3 := ((unhide HM2).set0 (i := 0) (v := .slice A2 b.length c2)).set0 (i := 1) (v := .bool sp)
    have m4 := m3.as0 (cs' := #[.slice A2 b.length c2, .bool sp]) (by rfl)
    have hl1 := (unhide HM1).blk0.lt
    have hne : ∀ k, (Value.slice A2 b.length c2).ownBlock = some k → k ≠ w.heap.size + 1 := fun k hk => by have := ((unhide HO2).lt k hk).1; omega
    exact bodyPost_ret (results_cell_row rfl _ _ (w.heap.size + 1) 36 _ (0, 0) _ rfl m4.blk0 Try.underlying36 rfl (by kernel_rfl)) rfl ⟨A2, c2, rfl, own_more (ownsRow_setCell_other (ownsRow_setCell_other (unhide HO2) (fun e => hne _ e rfl) _) (fun e => hne _ e rfl) _) (fun k hk => by have := ((unhide HO2).lt k hk).1; omega), m4.below⟩
theorem ret_pk {R : Ending → World → Prop} {a : Act} {w : World} {fn : Func} {p u : Tmp} (h : fn.results = #[.cell p 36, .tmp u]) (g : Nat) (cs : Array Value) (hs : cs.size = 2)
    (hp : a.tmps.getD p undef = .pointer (some ⟨g, 0, none⟩)) (hb : Blk w g 36 cs) (hdf : a.defers = []) (hR : R (.returned (.tuple #[.agg cs, a.tmps.getD u undef])) w) : bodyPost Try.prog fn R .ret a w :=
  bodyPost_ret (v := .tuple #[.agg cs, a.tmps.getD u undef]) (by
    rw [results_cell_tmp h, hp]
    simp [asAddr, run_loadVar_row _ _ 36 36 cs (0, 0) _ hb Try.underlying36 rfl (by rw [hs]; kernel_rfl)]) hdf hR
theorem look_bad {p : Option Nat} (f t i er : Int) (w : World) (hat : Calls Try.prog 27 #[.pointer (p.map fun g => ⟨g, 0, none⟩), .int .i64 f, .int .i64 t, .int .i64 i] (w.alloc (.cells #[.slice none 0 0, .bool false] 36)) fun e w' => e = .returned (.int .i64 er) ∧ w.alloc (.cells #[.slice none 0 0, .bool false] 36) = w') (he : er ≠ 0) :
    Calls Try.prog 17 #[.pointer (p.map fun g => ⟨g, 0, none⟩), .int .i64 f, .int .i64 t, .int .i64 i] w fun e w' => e = .returned (.tuple #[.agg #[.slice none 0 0, .bool false], .int .i64 er]) ∧ Below w.heap.size w w' := by
  have HA := hide hat
  have f1 : (er == 0) = false := beq_eq_false_iff_ne.2 he
  have f2 : (er != 0) = true := by simp [he]
  have HM := hide ((Mem.start w).new (t := 36) (cs := #[.slice none 0 0, .bool false]) w.heap.size rfl)
  clear hat he
  generalize (p.map fun g => (⟨g, 0, none⟩ : Addr)) = q at HA ⊢
  go_enter Try.func17, Try.ntmps17
  go_wp2_with (go_at_call 27; refine (unhide HA).mono ?_; rintro _ w2 ⟨rfl, rfl⟩)
  exact ret_pk rfl w.heap.size #[.slice none 0 0, .bool false] rfl rfl (unhide HM).blk0 rfl ⟨rfl, (unhide HM).below⟩
theorem look_none (B p : Nat) (s : NS) (a b : Nat) (i : Int) (w : World) (h : NetAt w B p s) (ha : a ≤ 20) (hb : b ≤ 20) (hab : a ≠ b) (hi : i < 0 ∨ ((s.ways (a * 21 + b)).ps.length : Int) ≤ i) :
    Calls Try.prog 17 #[.pointer (some ⟨p, 0, none⟩), .int .i64 (a : Int), .int .i64 (b : Int), .int .i64 i] w fun e w' => e = .returned (.tuple #[.agg #[.slice none 0 0, .bool false], .int .i64 7]) ∧ Below w.heap.size w w' :=
  look_bad (p := some p) a b i 7 w (at_none B p s a b i _ (h.new ((Below.refl _ _).alloc (Nat.le_refl _) _)) ha hb hab hi) (by omega)
theorem look_away (p : Nat) (f t i : Int) (w : World) (h : ¬ Rt f t) :
    Calls Try.prog 17 #[.pointer (some ⟨p, 0, none⟩), .int .i64 f, .int .i64 t, .int .i64 i] w fun e w' => e = .returned (.tuple #[.agg #[.slice none 0 0, .bool false], .int .i64 1]) ∧ Below w.heap.size w w' :=
  look_bad (p := some p) f t i 1 w (at_bad p f t i _ h) (by omega)
theorem look_nil (f t i : Int) (w : World) :
    Calls Try.prog 17 #[.pointer none, .int .i64 f, .int .i64 t, .int .i64 i] w fun e w' => e = .returned (.tuple #[.agg #[.slice none 0 0, .bool false], .int .i64 1]) ∧ Below w.heap.size w w' :=
  look_bad (p := none) f t i 1 w (at_nil f t i _) (by omega)
set_option maxHeartbeats 2000000 in
set_option maxRecDepth 20000 in
theorem look_yes (B p : Nat) (s : NS) (a b i : Nat) (x : Pk) (w : World) (h : NetAt w B p s) (ha : a ≤ 20) (hb : b ≤ 20) (hab : a ≠ b) (hx : (s.ways (a * 21 + b)).ps[i]? = some x) :
    Calls Try.prog 17 #[.pointer (some ⟨p, 0, none⟩), .int .i64 (a : Int), .int .i64 (b : Int), .int .i64 (i : Int)] w fun e w' => ∃ A2 c2, e = .returned (.tuple #[.agg #[.slice A2 x.1.1.length c2, .bool x.2], .int .i64 0]) ∧ NewRow w w' x.1.1 A2 c2 := by
  have hil := (List.getElem?_eq_some_iff.1 hx).1
  have hlt : a * 21 + b < 441 := by omega
  have hal : Below w.heap.size w (w.alloc (.cells #[.slice none 0 0, .bool false] 36)) := (Below.refl _ _).alloc (Nat.le_refl _) _
  have HM1 := hide ((Mem.start w).new (t := 36) (cs := #[.slice none 0 0, .bool false]) w.heap.size rfl)
  obtain ⟨w1, hw1⟩ : ∃ u, w.alloc (.cells #[.slice none 0 0, .bool false] 36) = u := ⟨_, rfl⟩
  have HA := hide (at_yes B p s a b i w1 (hw1 ▸ h.new hal) ha hb hab hil)
  have hn1 : NetAt w1 B p s := hw1 ▸ h.new hal
  rw [hw1] at HM1 hal
  obtain ⟨g, cap, hv, hgb, hgl⟩ := (hn1.row _ hlt).form (by omega)
  have hA : (s.ways (a * 21 + b)).A = some ⟨g, 0, none⟩ := by injection hv
  have hrow := hn1.row _ hlt
  rw [hdr, hA] at hrow
  obtain ⟨a0, a1⟩ := pkCells_at _ i x hx
  have c0 : w1.cell? ⟨g, i * 2, none⟩ = some (.slice x.1.2.1 x.1.1.length x.1.2.2) := (hrow.cellAt (i * 2) (by omega)).trans a0
  have c1 : w1.cell? ⟨g, i * 2 + 1, none⟩ = some (.bool x.2) := (hrow.cellAt (i * 2 + 1) (by omega)).trans a1
  have fc : w1.cell? ⟨p, a * 21 + b, none⟩ = some (.slice (some ⟨g, 0, none⟩) (s.ways (a * 21 + b)).ps.length (s.ways (a * 21 + b)).c) := by rw [hn1.cell hlt, hdr, hA]
  have HC := hide (copied_any x.1.1 x.1.2.1 x.1.2.2 x.2 _ w1 (RdB.of_own (hn1.body _ i x hlt hx)) (Nat.le_refl _) (hn1.small _ i x hlt hx))
  clear h hn1 hv hrow hA a0 a1 hx hab hal
  go_enter Try.func17, Try.ntmps17
  go_wp2_with (first
    | (go_at_call 27; refine (unhide HA).mono ?_; rintro _ w2 ⟨rfl, rfl⟩)
    | (go_at_call 28; refine (unhide HC).mono ?_; rintro _ w2 ⟨A2, c2, rfl, ho2, hb2⟩; have HO2 := hide ho2; have HM2 := hide ((unhide HM1).called hb2); clear ho2 hb2)
    | (refine wpList_store_blk rfl 36 (.tmp 8) (.tmp 31) rfl (w.heap.size) _ (by rfl) (by rfl) 36 _ (unhide HM2).blk0 (by kernel_rfl) (by rfl) (by simp [Value.oneCell']) ?_; intro w3 hbS hgS; have HM3 := hide ((unhide HM2).grown0 hbS hgS); have HGw3 := hide hgS; clear hbS hgS))
  have hs1 := (unhide HM1).blk0.lt
  have ho3 : w3.ownsRow w.heap.size 5 1 (.slice A2 x.1.1.length c2) x.1.1.length (x.1.1.map Bv) := own_more ((unhide HO2).kept (unhide HGw3) (.inr fun e => by have := ((unhide HO2).lt _ e).1; omega)) (fun k hk => by have := ((unhide HO2).lt k hk).1; omega)
  exact ret_pk rfl w.heap.size #[.slice A2 x.1.1.length c2, .bool x.2] rfl rfl (unhide HM3).blk0 rfl ⟨A2, c2, rfl, ho3, (unhide HM3).below⟩
end Go.Proofs.Ytbclfiollfagmaa
