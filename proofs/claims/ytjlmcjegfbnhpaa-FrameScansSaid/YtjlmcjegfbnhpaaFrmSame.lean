/- The document's Same, of a frame and itself; the walk of FrameUnpacks. -/
import Derived.Test.YtjlmcjegfbnhpaaFrmUnpack
namespace Go.Proofs.Ytjlmcjegfbnhpaa
set_option linter.unusedVariables false
open Go.RowKit
set_option maxHeartbeats 1000000 in
set_option maxRecDepth 20000 in
theorem refSameF_eq (f : Frm.F) (A B : Option Addr) (n m ca cb Ba Bb : Nat) (w : World) (ha : RdB w Ba A f.body) (hb : RdB w Bb B f.body) (hBa : Ba ≤ w.heap.size) (hBb : Bb ≤ w.heap.size) (hn : f.body.length = n) (hm : f.body.length = m) :
    Calls Try.prog 16 #[.agg #[.int .i64 f.ver, .int .i64 f.epoch, .int .i64 f.seq, .int .i64 f.ack, .slice A n ca], .agg #[.int .i64 f.ver, .int .i64 f.epoch, .int .i64 f.seq, .int .i64 f.ack, .slice B m cb]] w
      fun e w' => e = .returned (.bool true) ∧ Below w.heap.size w w' := by
  subst hn hm
  obtain ⟨W, hW⟩ : ∃ W, (w.alloc (.cells #[.int .i64 f.ver, .int .i64 f.epoch, .int .i64 f.seq, .int .i64 f.ack, .slice A f.body.length ca] 24)).alloc (.cells #[.int .i64 f.ver, .int .i64 f.epoch, .int .i64 f.seq, .int .i64 f.ack, .slice B f.body.length cb] 24) = W := ⟨_, rfl⟩
  have HM : Hid (Mem w W [(w.heap.size + 1, 24, Frm.cells f.ver f.epoch f.seq f.ack (.slice B f.body.length cb)), (w.heap.size, 24, Frm.cells f.ver f.epoch f.seq f.ack (.slice A f.body.length ca))]) := hide (by
    rw [← hW]
    exact ((Mem.start w).new w.heap.size rfl).new (w.heap.size + 1) (by simp))
  have f0 := Frm.cellsAt (unhide HM).blk0
  have f1 := Frm.cellsAt (unhide HM).blk1
  have ea := run_str (P := Try.prog) ca (ha.below ((unhide HM).below.mono hBa)) Try.underlying22 Try.underlying5 Try.underlying9
  have eb := run_str (P := Try.prog) cb (hb.below ((unhide HM).below.mono hBb)) Try.underlying22 Try.underlying5 Try.underlying9
  go_enter Try.func16, Try.ntmps16
  go_wp2_with fail
  go_ret
  exact ⟨rfl, (unhide HM).below⟩

set_option maxHeartbeats 1000000 in
set_option maxRecDepth 20000 in
theorem frameUnpacks_any (b : List UInt8) (A : Option Addr) (c : Nat) (w : World) (hr : RdB w w.heap.size A b) (hlc : b.length ≤ c) (hc : c ≤ 140737488351232) :
    Calls Try.prog 4 #[.slice A b.length c] w fun e w' => e = .returned (.bool true) ∧ Below w.heap.size w w' := by
  have HA := hide awake_any
  have H1 := hide (unpack_any b A c w.heap.size w hr (Nat.le_refl _) hlc (by omega))
  have H2 := hide (fun (u : World) (h : Below w.heap.size w u) => refUnpack_any b A c w.heap.size u (hr.below h) h.size hlc (by omega))
  obtain ⟨f, er, hx⟩ : ∃ f er, Frm.unpack b = (f, er) := ⟨_, _, rfl⟩
  rw [hx] at H1 H2
  clear hx
  go_enter Try.func4, Try.ntmps4
  go_wp2_with (first
    | (go_at_call 14; refine (unhide H1).mono ?_; rintro _ w1 ⟨A1, c1, rfl, hown1, hbel1, hcc1⟩; have HR1 := hide (RdB.of_own hown1)
       have HM1 := hide (((Mem.start w).called hbel1).new (t := 24) (cs := Frm.cells f.ver f.epoch f.seq f.ack (.slice A1 f.body.length c1)) w1.heap.size rfl); clear hown1 hbel1 hcc1; unfold Frm.val)
    | (go_at_call 15; refine ((unhide H2) _ (unhide HM1).below).mono ?_; rintro _ w2 ⟨A2, c2, rfl, hown2, hbel2, hcc2⟩; have HR2 := hide (RdB.of_own hown2)
       have HB2 := hide hbel2; have HM2 := hide (((unhide HM1).called hbel2).new (t := 24) (cs := Frm.cells f.ver f.epoch f.seq f.ack (.slice A2 f.body.length c2)) w2.heap.size rfl); clear hown2 hbel2 hcc2; unfold Frm.val)
    | (go_at_call 12; refine (unhide HA _).mono ?_; rintro _ w3 ⟨rfl, hb3⟩; have HM3 := hide ((unhide HM2).called hb3); have HB3 := hide hb3
       have fc1 := Frm.cellsAt (unhide HM3).blk0; have fc2 := Frm.cellsAt (unhide HM3).blk1; clear hb3)
    | (go_at_call 16; refine (refSameF_eq f A1 A2 _ _ c1 c2 w1.heap.size w2.heap.size w3 (((((unhide HR1).alloc (Nat.le_refl _) _).below ((unhide HB2).mono (by simp))).alloc (by have := (unhide HB2).size; simp at this; omega) _).below ((unhide HB3).mono (by have := (unhide HB2).size; simp at this ⊢; omega))) (((unhide HR2).alloc (Nat.le_refl _) _).below ((unhide HB3).mono (by simp))) (by have h1 := (unhide HB2).size; have h2 := (unhide HB3).size; simp at h1 h2; omega) (by have h2 := (unhide HB3).size; simp at h2; omega) rfl rfl).mono ?_; rintro _ w4 ⟨rfl, hb4⟩; have HM4 := hide ((unhide HM3).called hb4); clear hb4))
  go_ret
  exact ⟨rfl, (unhide HM4).below⟩
end Go.Proofs.Ytjlmcjegfbnhpaa
