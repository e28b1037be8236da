/- Unpack, frame's and the document's; are two frames the same. -/
import Derived.Test.YtjlmcjegfbnhpaaFrmRefFirst
import Derived.Test.YtjlmcjegfbnhpaaFrmLawA
namespace Go.Proofs.Ytjlmcjegfbnhpaa
set_option linter.unusedVariables false
open Go.RowKit

theorem ret_cell_tmp {fn : Func} {R : Ending → World → Prop} {a : Act} {w : World} {p u : Tmp} {ty : TypeId} (h : fn.results = #[.cell p ty, .tmp u]) (g : Nat) (cs : Array Value)
    (hp : a.tmps.getD p undef = .pointer (some ⟨g, 0, none⟩)) (hl : (loadVar ty ⟨g, 0, none⟩).run Try.prog w = .ok (.agg cs) w)
    (hdf : a.defers = []) (hR : R (.returned (.tuple #[.agg cs, a.tmps.getD u undef])) w) : bodyPost Try.prog fn R .ret a w :=
  bodyPost_ret (v := .tuple #[.agg cs, a.tmps.getD u undef]) (by
    rw [results_cell_tmp h, hp]
    simp [asAddr, hl]) hdf hR
theorem ret_frame1 {R : Ending → World → Prop} {a : Act} {w : World} {fn : Func} {p u : Tmp} (h : fn.results = #[.cell p 24, .tmp u]) (g : Nat) (cs : Array Value) (hs : cs.size = 5)
    (hp : a.tmps.getD p undef = .pointer (some ⟨g, 0, none⟩)) (hb : Blk w g 24 cs) (hdf : a.defers = []) (hR : R (.returned (.tuple #[.agg cs, a.tmps.getD u undef])) w) : bodyPost Try.prog fn R .ret a w :=
  ret_cell_tmp h g cs hp (run_loadVar_row _ _ 24 24 _ (0, 0) _ hb Try.underlying24 rfl (by rw [hs]; kernel_rfl)) hdf hR
/-- the call answers a frame whose body is new, and an error -/
def FreshF1 (w : World) (f : Frm.F) (er : Int) (e : Ending) (w' : World) : Prop :=
  ∃ A c, e = .returned (.tuple #[Frm.val f A c, .int .i64 er]) ∧ w'.ownsRow w.heap.size 5 1 (.slice A f.body.length c) f.body.length (f.body.map Bv) ∧ Below w.heap.size w w' ∧ f.body.length ≤ c
theorem freshF1_zero {w w' : World} (hb : Below w.heap.size w w') (er : Int) : FreshF1 w Frm.F.zero er (.returned (.tuple #[.agg (Frm.cells 0 0 0 0 (.slice none 0 0)), .int .i64 er])) w' :=
  ⟨none, 0, rfl, own_nil _ _ _ _, hb, Nat.le_refl _⟩
theorem Frm.first_err {b : List UInt8} (h : (Frm.first b).2.2 ≠ 0) : (Frm.first b).1 = Frm.F.zero := by
  have hk := Frm.kind b
  generalize Frm.first b = res at hk h
  cases hk <;> first | rfl | exact absurd rfl h
theorem Frm.first_len (b : List UInt8) : (Frm.first b).2.1 ≤ b.length ∧ (Frm.first b).2.1 ≤ 1048597 := by
  have hk := Frm.kind b
  generalize Frm.first b = res at hk
  cases hk <;> simp <;> omega

set_option maxHeartbeats 1000000 in
set_option maxRecDepth 20000 in
theorem unpack_any (b : List UInt8) (A : Option Addr) (c B : Nat) (w : World) (hr : RdB w B A b) (hB : B ≤ w.heap.size) (hlc : b.length ≤ c) (hc : c ≤ 9223372036854775807) :
    Calls Try.prog 14 #[.slice A b.length c] w (FreshF1 w (Frm.unpack b).1 (Frm.unpack b).2) := by
  have HM0 := hide ((Mem.start w).new (t := 24) (cs := Frm.cells 0 0 0 0 (.slice none 0 0)) w.heap.size rfl)
  have H := hide (first_any b A c B (w.alloc (.cells (Frm.cells 0 0 0 0 (.slice none 0 0)) 24)) ((hr.alloc hB _)) (by simp; omega) hlc hc)
  have hln := (Frm.first_len b).1
  have her0 := Frm.first_err (b := b)
  obtain ⟨f, n, er, hx⟩ : ∃ f n er, Frm.first b = (f, n, er) := ⟨_, _, _, rfl⟩
  have HU : Hid (Frm.unpack b = if er ≠ 0 then (Frm.F.zero, er) else if n ≠ b.length then (Frm.F.zero, 3) else (f, 0)) := hide (by unfold Frm.unpack; rw [hx])
  rw [hx] at H hln her0
  have hln : n ≤ b.length := hln
  have her0 : er ≠ 0 → f = Frm.F.zero := her0
  have HE0 := hide her0
  clear hx her0
  by_cases her : er = 0
  · subst her
    by_cases hnl : n = b.length
    · rw [show Frm.unpack b = (f, 0) from (unhide HU).trans (by simp [hnl])]
      have hx : ((n : Int) != (b.length : Int)) = false := by simp [hnl]
      have hx2 : ¬ n < b.length := by omega
      clear hnl
      go_enter Try.func14, Try.ntmps14
      go_wp2_with (first
        | (go_at_call 23; refine (unhide H).mono ?_; rintro _ w1 ⟨A1, c1, rfl, hown, hbel, hcc⟩
           have HM1 := hide ((unhide HM0).called hbel); have HO1 := hide hown; have HM2 := hide ((unhide HM1).new (t := 24) (cs := Frm.cells f.ver f.epoch f.seq f.ack (.slice A1 f.body.length c1)) w1.heap.size rfl); clear hown hbel; unfold Frm.val)
        | (refine wpList_load_blk rfl 24 (.tmp 4) rfl (w1.heap.size) rfl 24 _ _ ((unhide HM2).blk0) Try.underlying24 rfl (by kernel_rfl) ?_)
        | (refine wpList_store_blk rfl 24 (.tmp 2) (.tmp 22) rfl (w.heap.size) _ (by rfl) (by rfl) 24 _ (unhide HM2).blk1 (by kernel_rfl) (by rfl) (Frm.cells_one f.ver f.epoch f.seq f.ack A1 f.body.length c1) ?_; intro w2 hbS hgS; have HM3 := hide ((unhide HM2).grown1 hbS hgS); have HGw2 := hide hgS; clear hbS hgS))
      refine ret_frame1 rfl w.heap.size _ rfl (by rfl) (unhide HM3).blk1 (by rfl) ?_
      exact ⟨A1, c1, rfl, own_more (((unhide HO1).alloc _).kept (unhide HGw2) (.inr (fun h => by have := ((unhide HO1).lt _ h).1; simp at this; omega))) (fun q hq => by have := ((unhide HO1).lt q hq).1; simp at this; omega), (unhide HM3).below, hcc⟩
    · rw [show Frm.unpack b = (Frm.F.zero, 3) from (unhide HU).trans (by simp [hnl])]
      have hx : ((n : Int) != (b.length : Int)) = true := by simp only [bne_iff_ne, ne_eq]; omega
      have hx2 : n < b.length := by omega
      clear hnl
      go_enter Try.func14, Try.ntmps14
      go_wp2_with (first
        | (go_at_call 23; refine (unhide H).mono ?_; rintro _ w1 ⟨A1, c1, rfl, hown, hbel, hcc⟩
           have HM1 := hide ((unhide HM0).called hbel); have HO1 := hide hown; have HM2 := hide ((unhide HM1).new (t := 24) (cs := Frm.cells f.ver f.epoch f.seq f.ack (.slice A1 f.body.length c1)) w1.heap.size rfl); clear hown hbel; unfold Frm.val)
        | (refine wpList_load_blk rfl 24 (.tmp 4) rfl (w1.heap.size) rfl 24 _ _ ((unhide HM2).blk0) Try.underlying24 rfl (by kernel_rfl) ?_)
        | (refine wpList_store_blk rfl 24 (.tmp 2) (.tmp 21) rfl (w.heap.size) _ (by rfl) (by rfl) 24 _ (unhide HM2).blk1 (by kernel_rfl) (by rfl) (Frm.cells_one 0 0 0 0 none 0 0) ?_; intro w2 hbS hgS; have HM3 := hide ((unhide HM2).grown1 hbS hgS); have HGw2 := hide hgS; clear hbS hgS))
      refine ret_frame1 rfl w.heap.size _ rfl (by rfl) (unhide HM3).blk1 (by rfl) ?_
      exact freshF1_zero (unhide HM3).below 3
  · rw [show Frm.unpack b = (Frm.F.zero, er) from (unhide HU).trans (by simp [her])]
    have hx : (er != 0) = true := by simp [her]
    have hx1 : (er == 0) = false := beq_eq_false_iff_ne.2 her
    have hf : f = Frm.F.zero := unhide HE0 her
    have HF := hide hf
    clear her hf
    · skip
      go_enter Try.func14, Try.ntmps14
      go_wp2_with (first
        | (go_at_call 23; refine (unhide H).mono ?_; rintro _ w1 ⟨A1, c1, rfl, hown, hbel, hcc⟩
           have HM1 := hide ((unhide HM0).called hbel); have HO1 := hide hown; have HM2 := hide ((unhide HM1).new (t := 24) (cs := Frm.cells f.ver f.epoch f.seq f.ack (.slice A1 f.body.length c1)) w1.heap.size rfl); clear hown hbel; unfold Frm.val)
        | (refine wpList_load_blk rfl 24 (.tmp 4) rfl (w1.heap.size) rfl 24 _ _ ((unhide HM2).blk0) Try.underlying24 rfl (by kernel_rfl) ?_)
        | (refine wpList_store_blk rfl 24 (.tmp 2) (.tmp 15) rfl (w.heap.size) _ (by rfl) (by rfl) 24 _ (unhide HM2).blk1 (by kernel_rfl) (by rfl) (Frm.cells_one 0 0 0 0 none 0 0) ?_; intro w2 hbS hgS; have HM3 := hide ((unhide HM2).grown1 hbS hgS); have HGw2 := hide hgS; clear hbS hgS))
      refine ret_frame1 rfl w.heap.size _ rfl (by rfl) (unhide HM3).blk1 (by rfl) ?_
      exact freshF1_zero (unhide HM3).below er
set_option maxHeartbeats 1000000 in
set_option maxRecDepth 20000 in
theorem refUnpack_any (b : List UInt8) (A : Option Addr) (c B : Nat) (w : World) (hr : RdB w B A b) (hB : B ≤ w.heap.size) (hlc : b.length ≤ c) (hc : c ≤ 9223372036854775807) :
    Calls Try.prog 15 #[.slice A b.length c] w (FreshF1 w (Frm.unpack b).1 (Frm.unpack b).2) := by
  have HM0 := hide ((Mem.start w).new (t := 24) (cs := Frm.cells 0 0 0 0 (.slice none 0 0)) w.heap.size rfl)
  have H := hide (refFirst_any b A c B (w.alloc (.cells (Frm.cells 0 0 0 0 (.slice none 0 0)) 24)) ((hr.alloc hB _)) (by simp; omega) hlc hc)
  have hln := (Frm.first_len b).1
  have her0 := Frm.first_err (b := b)
  obtain ⟨f, n, er, hx⟩ : ∃ f n er, Frm.first b = (f, n, er) := ⟨_, _, _, rfl⟩
  have HU : Hid (Frm.unpack b = if er ≠ 0 then (Frm.F.zero, er) else if n ≠ b.length then (Frm.F.zero, 3) else (f, 0)) := hide (by unfold Frm.unpack; rw [hx])
  rw [hx] at H hln her0
  have hln : n ≤ b.length := hln
  have her0 : er ≠ 0 → f = Frm.F.zero := her0
  have HE0 := hide her0
  clear hx her0
  by_cases her : er = 0
  · subst her
    by_cases hnl : n = b.length
    · rw [show Frm.unpack b = (f, 0) from (unhide HU).trans (by simp [hnl])]
      have hx : ((n : Int) != (b.length : Int)) = false := by simp [hnl]
      have hx2 : ¬ n < b.length := by omega
      clear hnl
      go_enter Try.func15, Try.ntmps15
      go_wp2_with (first
        | (go_at_call 18; refine (unhide H).mono ?_; rintro _ w1 ⟨A1, c1, rfl, hown, hbel, hcc⟩
           have HM1 := hide ((unhide HM0).called hbel); have HO1 := hide hown; have HM2 := hide ((unhide HM1).new (t := 24) (cs := Frm.cells f.ver f.epoch f.seq f.ack (.slice A1 f.body.length c1)) w1.heap.size rfl); clear hown hbel; unfold Frm.val)
        | (refine wpList_load_blk rfl 24 (.tmp 4) rfl (w1.heap.size) rfl 24 _ _ ((unhide HM2).blk0) Try.underlying24 rfl (by kernel_rfl) ?_)
        | (refine wpList_store_blk rfl 24 (.tmp 2) (.tmp 22) rfl (w.heap.size) _ (by rfl) (by rfl) 24 _ (unhide HM2).blk1 (by kernel_rfl) (by rfl) (Frm.cells_one f.ver f.epoch f.seq f.ack A1 f.body.length c1) ?_; intro w2 hbS hgS; have HM3 := hide ((unhide HM2).grown1 hbS hgS); have HGw2 := hide hgS; clear hbS hgS))
      refine ret_frame1 rfl w.heap.size _ rfl (by rfl) (unhide HM3).blk1 (by rfl) ?_
      exact ⟨A1, c1, rfl, own_more (((unhide HO1).alloc _).kept (unhide HGw2) (.inr (fun h => by have := ((unhide HO1).lt _ h).1; simp at this; omega))) (fun q hq => by have := ((unhide HO1).lt q hq).1; simp at this; omega), (unhide HM3).below, hcc⟩
    · rw [show Frm.unpack b = (Frm.F.zero, 3) from (unhide HU).trans (by simp [hnl])]
      have hx : ((n : Int) != (b.length : Int)) = true := by simp only [bne_iff_ne, ne_eq]; omega
      have hx2 : n < b.length := by omega
      clear hnl
      go_enter Try.func15, Try.ntmps15
      go_wp2_with (first
        | (go_at_call 18; refine (unhide H).mono ?_; rintro _ w1 ⟨A1, c1, rfl, hown, hbel, hcc⟩
           have HM1 := hide ((unhide HM0).called hbel); have HO1 := hide hown; have HM2 := hide ((unhide HM1).new (t := 24) (cs := Frm.cells f.ver f.epoch f.seq f.ack (.slice A1 f.body.length c1)) w1.heap.size rfl); clear hown hbel; unfold Frm.val)
        | (refine wpList_load_blk rfl 24 (.tmp 4) rfl (w1.heap.size) rfl 24 _ _ ((unhide HM2).blk0) Try.underlying24 rfl (by kernel_rfl) ?_)
        | (refine wpList_store_blk rfl 24 (.tmp 2) (.tmp 21) rfl (w.heap.size) _ (by rfl) (by rfl) 24 _ (unhide HM2).blk1 (by kernel_rfl) (by rfl) (Frm.cells_one 0 0 0 0 none 0 0) ?_; intro w2 hbS hgS; have HM3 := hide ((unhide HM2).grown1 hbS hgS); have HGw2 := hide hgS; clear hbS hgS))
      refine ret_frame1 rfl w.heap.size _ rfl (by rfl) (unhide HM3).blk1 (by rfl) ?_
      exact freshF1_zero (unhide HM3).below 3
  · rw [show Frm.unpack b = (Frm.F.zero, er) from (unhide HU).trans (by simp [her])]
    have hx : (er != 0) = true := by simp [her]
    have hx1 : (er == 0) = false := beq_eq_false_iff_ne.2 her
    have hf : f = Frm.F.zero := unhide HE0 her
    have HF := hide hf
    clear her hf
    · skip
      go_enter Try.func15, Try.ntmps15
      go_wp2_with (first
        | (go_at_call 18; refine (unhide H).mono ?_; rintro _ w1 ⟨A1, c1, rfl, hown, hbel, hcc⟩
           have HM1 := hide ((unhide HM0).called hbel); have HO1 := hide hown; have HM2 := hide ((unhide HM1).new (t := 24) (cs := Frm.cells f.ver f.epoch f.seq f.ack (.slice A1 f.body.length c1)) w1.heap.size rfl); clear hown hbel; unfold Frm.val)
        | (refine wpList_load_blk rfl 24 (.tmp 4) rfl (w1.heap.size) rfl 24 _ _ ((unhide HM2).blk0) Try.underlying24 rfl (by kernel_rfl) ?_)
        | (refine wpList_store_blk rfl 24 (.tmp 2) (.tmp 22) rfl (w.heap.size) _ (by rfl) (by rfl) 24 _ (unhide HM2).blk1 (by kernel_rfl) (by rfl) (Frm.cells_one f.ver f.epoch f.seq f.ack A1 f.body.length c1) ?_; intro w2 hbS hgS; have HM3 := hide ((unhide HM2).grown1 hbS hgS); have HGw2 := hide hgS; clear hbS hgS))
      refine ret_frame1 rfl w.heap.size _ rfl (by rfl) (unhide HM3).blk1 (by rfl) ?_
      have hf2 := unhide HF
      subst hf2
      exact ⟨A1, c1, rfl, own_more (((unhide HO1).alloc _).kept (unhide HGw2) (.inr (fun h => by have := ((unhide HO1).lt _ h).1; simp at this; omega))) (fun q hq => by have := ((unhide HO1).lt q hq).1; simp at this; omega), (unhide HM3).below, hcc⟩
end Go.Proofs.Ytjlmcjegfbnhpaa
