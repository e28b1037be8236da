/- The walk of FramePacks. -/
import Derived.Test.YtjlmcjegfbnhpaaFrmRefPack
namespace Go.Proofs.Ytjlmcjegfbnhpaa
set_option linter.unusedVariables false
open Go.RowKit

set_option maxRecDepth 20000 in
theorem wake_pack (w : World) : Calls Try.prog 10 #[.agg #[.int .i64 1, .int .i64 0, .int .i64 0, .int .i64 0, .slice none 0 0]] w fun e w' =>
    ∃ ad c, e = .returned (.tuple #[.slice (some ad) 21 c, .int .i64 0]) ∧ 21 ≤ c ∧ w'.cell? ad = some (.int .u8 1) ∧ Below w.heap.size w w' := by
  have H := pack_ok 1 0 0 0 [] none 0 w.heap.size w (by omega) (by omega) (by omega) (by omega) (by simp) (fun h => absurd h (by simp)) (Nat.le_refl _)
  refine Calls.mono H ?_
  rintro e w1 ⟨A, c, rfl, hown, hbel, hcc⟩
  have hl : (Frm.whole (Frm.plain ⟨((1 : Nat) : Int), ((0 : Nat) : Int), ((0 : Nat) : Int), ((0 : Nat) : Int), []⟩)).length = 21 := by rw [Frm.whole_len, Frm.plain_len]; rfl
  obtain ⟨ad, rfl, _, hcl⟩ := RdB.of_own hown (by rw [hl]; omega)
  rw [hl] at hcc ⊢
  exact ⟨ad, c, rfl, hcc, hcl 0 1 rfl, hbel⟩

set_option maxHeartbeats 1000000 in
theorem awake_any (w : World) : Calls Try.prog 12 #[] w fun e w' => e = .returned (.bool true) ∧ Below w.heap.size w w' := by
  have H := hide (wake_pack w)
  go_enter Try.func12, Try.ntmps12
  go_wp2_with (go_at_call 10; refine (unhide H).mono ?_; rintro e w1 ⟨ad, c, rfl, hcc, c0, hbel⟩; have HB := hide hbel; clear hbel)
  go_ret
  exact ⟨rfl, unhide HB⟩

set_option maxHeartbeats 1000000 in
set_option maxRecDepth 20000 in
theorem framePacks_any (f : Frm.F) (A : Option Addr) (c : Nat) (w : World) (hr : RdB w w.heap.size A f.body) (hlc : f.body.length ≤ c) (hc : c ≤ 140737488351232) :
    Calls Try.prog 3 #[Frm.val f A c] w fun e w' => e = .returned (.bool true) ∧ Below w.heap.size w w' := by
  have HM0 := hide ((Mem.start w).new (t := 24) (cs := #[.int .i64 f.ver, .int .i64 f.epoch, .int .i64 f.seq, .int .i64 f.ack, .slice A f.body.length c]) w.heap.size rfl)
  have HA := hide awake_any
  obtain ⟨x, er, hx⟩ : ∃ x er, Frm.pack f = (x, er) := ⟨_, _, rfl⟩
  have HP : Hid (∀ u : World, RdB u w.heap.size A f.body → w.heap.size ≤ u.heap.size → Calls Try.prog 10 #[.agg #[.int .i64 f.ver, .int .i64 f.epoch, .int .i64 f.seq, .int .i64 f.ack, .slice A f.body.length c]] u (FreshBE u x er)) := fun u h1 h2 => by
    have h := pack_any f A c w.heap.size u h1 h2 (by omega)
    rw [hx] at h
    exact h
  have HQ : Hid (∀ u : World, RdB u w.heap.size A f.body → w.heap.size ≤ u.heap.size → Calls Try.prog 11 #[.agg #[.int .i64 f.ver, .int .i64 f.epoch, .int .i64 f.seq, .int .i64 f.ack, .slice A f.body.length c]] u (FreshBE u x er)) := fun u h1 h2 => by
    have h := refPack_any f A c w.heap.size u h1 h2 (by omega)
    rw [hx] at h
    exact h
  clear hx
  unfold Frm.val
  go_enter Try.func3, Try.ntmps3
  go_wp2_with (first
    | refine wpList_load_blk rfl 24 (.tmp 1) rfl (w.heap.size) rfl 24 _ _ ((unhide HM0).blk0) Try.underlying24 rfl (by kernel_rfl) ?_
    | refine wpList_load_blk rfl 24 (.tmp 1) rfl (w.heap.size) rfl 24 _ _ ((unhide HM1).blk0) Try.underlying24 rfl (by kernel_rfl) ?_
    | (go_at_call 10; refine (unhide HP _ (hr.below (unhide HM0).below) (unhide HM0).size).mono ?_; rintro e w1 ⟨A1, c1, rfl, hown1, hbel1, hcc1⟩; have HM1 := hide ((unhide HM0).called hbel1); have HR1 := hide (RdB.of_own hown1); clear hown1 hbel1 hcc1)
    | (go_at_call 11; refine (unhide HQ _ (hr.below (unhide HM1).below) (unhide HM1).size).mono ?_; rintro e w2 ⟨A2, c2, rfl, hown2, hbel2, hcc2⟩; have HM2 := hide ((unhide HM1).called hbel2); have HR2 := hide (RdB.of_own hown2); have HZ2 := hide hbel2.size; have HR1' := hide ((unhide HR1).below hbel2); clear hown2 hbel2 hcc2)
    | (go_at_call 12; refine (unhide HA _).mono ?_; rintro e w3 ⟨rfl, hb⟩; have HM3 := hide ((unhide HM2).called hb); have HS1 := hide ((unhide HR1').below (hb.mono (unhide HZ2))); have HS2 := hide ((unhide HR2).below hb); clear hb)
    | (go_at_call 13; refine (same_any x x A1 A2 c1 c2 _ _ _ (unhide HS1) (unhide HS2)).mono ?_; rintro e w4 ⟨rfl, rfl⟩; rw [beq_self_eq_true]))
  go_ret
  exact ⟨rfl, (unhide HM3).below⟩
end Go.Proofs.Ytjlmcjegfbnhpaa
