/- New, Out, Note, Got, Waiting and Epoch of an end, told of the end whole. -/
import Derived.Test.YtmmkjphkfhgcpaaLinkStep
namespace Go.Proofs.Ytmmkjphkfhgcpaa
set_option linter.unusedVariables false
open Go.RowKit

theorem RdB.only {S : Nat → Prop} {w u : World} {B : Nat} {A : Option Addr} {b : List UInt8} (h : RdB w B A b) (ho : Only S w u) (hB : B ≤ w.heap.size) (hs : ∀ ad, A = some ad → ¬ S ad.block) : RdB u B A b := fun hp => by
  obtain ⟨ad, e, hl, hc⟩ := h hp
  refine ⟨ad, e, hl, fun j x hj => ?_⟩
  rw [ho.cell (a := ad.add j) (by rw [block_of_add]; omega) (by rw [block_of_add]; exact hs ad e)]
  exact hc j x hj
/-- its blocks are from B on -/
def Mine (B p : Nat) (s : LS) : Prop := ∀ k, Foot p s k → B ≤ k
theorem Stepped.below {w w1 w2 : World} {p B : Nat} {s s' : LS} (h : Stepped w1 w2 p s s') (hb : Below B w w1) (hB : B ≤ w1.heap.size) (hm : Mine B p s) : Below B w w2 ∧ Mine B p s' :=
  ⟨hb.trans (h.only.below hB hm), fun k hk => by
    rcases h.foot k hk with h1 | h1
    · exact hm k h1
    · omega⟩
theorem Stepped.trans {w w1 w2 : World} {p : Nat} {s s1 s2 : LS} (h : Stepped w w1 p s s1) (h2 : Stepped w1 w2 p s1 s2) : Stepped w w2 p s s2 :=
  ⟨h2.at_, h.only.trans' h2.only h.foot, h.by_.trans h2.by_, fun k hk => by
    rcases h2.foot k hk with h3 | h3
    · exact h.foot k h3
    · exact .inr (Nat.le_trans h.only.size h3)⟩
/-- a new end -/
def newS (ep : Int) (m : Nat) : LS := ⟨ep, .slice none 0 0, [], 0, 0, m, 0, fun _ => none⟩
theorem newS_inv (ep : Int) (m K : Nat) : Inv (newS ep m) K := ⟨by simp [newS], by simp [newS], by simp [newS], by simp [newS]; omega, by simp [newS], by simp [newS], fun c h => by simp [newS] at h⟩
theorem new_e (ep : Int) (w : World) : Calls Try.prog 10 #[.int .i64 ep] w fun e w' => ∃ p, e = .returned (.pointer (some ⟨p, 0, none⟩)) ∧ EndAt w' p (newS ep w.heap.size) ∧ Mine w.heap.size p (newS ep w.heap.size) ∧ Below w.heap.size w w' := by
  refine (new_end ep w).mono ?_
  rintro _ w' ⟨p, rfl, h1, h2, h3⟩
  refine ⟨p, rfl, h1, ?_, h3⟩
  rintro k (rfl | rfl | hk)
  · omega
  · exact Nat.le_refl _
  · simp [newS, Value.ownBlock] at hk

theorem out_end (p : Nat) (s : LS) (w : World) (h : EndAt w p s) (hq : s.r.length ≤ 4096) (h0 : 0 ≤ s.sent) (h1 : s.sent ≤ 1099511627776) :
    Calls Try.prog 12 #[.pointer (some ⟨p, 0, none⟩)] w (OutsQ w s.ep s.sent s.got s.r.length s.r) := by
  obtain ⟨Aw, cw, hwv, _⟩ := h.que.form
  have hblk := h.blk
  have hque := h.que
  rw [hwv] at hblk hque
  exact out_walk p s.ep s.sent s.got Aw s.r.length cw s.m s.r w hblk hque h.lie hq h0 h1
theorem waiting_end (p : Nat) (s : LS) (w : World) (h : EndAt w p s) :
    Calls Try.prog 19 #[.pointer (some ⟨p, 0, none⟩)] w fun e w' => e = .returned (.int .i64 (s.r.length : Int)) ∧ w = w' := by
  obtain ⟨Aw, cw, hwv, _⟩ := h.que.form
  have hblk := h.blk
  rw [hwv] at hblk
  exact waiting_any p s.ep s.sent s.got Aw s.r.length cw s.m w hblk
theorem got_end (p : Nat) (s : LS) (w : World) (h : EndAt w p s) :
    Calls Try.prog 22 #[.pointer (some ⟨p, 0, none⟩)] w fun e w' => e = .returned (.int .i64 s.got) ∧ w = w' := got_any p s.ep s.sent s.got s.wv s.m w h.blk
theorem epoch_end (p : Nat) (s : LS) (w : World) (h : EndAt w p s) :
    Calls Try.prog 26 #[.pointer (some ⟨p, 0, none⟩)] w fun e w' => e = .returned (.int .i64 s.ep) ∧ w = w' := by
  have fc := endAt h.blk
  go_enter Try.func26, Try.ntmps26
  go_wp2_with fail
  go_ret
  exact ⟨rfl, rfl⟩

set_option maxHeartbeats 2000000 in
set_option maxRecDepth 20000 in
theorem note_walk (p : Nat) (ep sent got : Int) (wv : Value) (m : Nat) (b : List UInt8) (A : Option Addr) (c B : Nat) (w : World) (hp : Blk w p 64 (endCells ep wv sent got m)) (hr : RdB w B A b) (hB : B ≤ w.heap.size) (hb : b.length ≤ 140737488351232) :
    Calls Try.prog 17 #[.pointer (some ⟨p, 0, none⟩), .slice A b.length c] w fun e w' => ∃ A2 c2, e = .returned (.agg #[.int .i64 0, .int .i64 ep, .int .i64 0, .int .i64 got, .slice A2 b.length c2]) ∧
      RdT w' A2 b ∧ b.length ≤ c2 ∧ Below w.heap.size w w' ∧ (∀ ad, A2 = some ad → w.heap.size ≤ ad.block) := by
  have fc := endAt (hp.alloc (.cells #[.int .i64 0, .int .i64 0, .int .i64 0, .int .i64 0, .slice none 0 0] 31))
  have hpl := hp.lt
  have hne : p ≠ w.heap.size := Nat.ne_of_lt hpl
  have HC := hide (fun (u : World) (h : RdB u B A b) (h2 : B ≤ u.heap.size) => copied_any b A c B u h h2 (by omega))
  have HR := hide (hr.alloc hB (.cells #[.int .i64 0, .int .i64 0, .int .i64 0, .int .i64 0, .slice none 0 0] 31))
  have HP := hide (hp.alloc (.cells #[.int .i64 0, .int .i64 0, .int .i64 0, .int .i64 0, .slice none 0 0] 31))
  have HF := hide (Blk.new w 31 #[.int .i64 0, .int .i64 0, .int .i64 0, .int .i64 0, .slice none 0 0])
  clear hp hr
  go_enter Try.func17, Try.ntmps17
  go_wp2_with fail
  go_region_law (go_simp; go_at_call 27; refine (unhide HC _ (RdB.drewN (unhide HR) 1) (by simp; omega)).mono ?_; rintro _ w2 ⟨A2, c2, rfl, hown2, hbel2, hcc2⟩
                 have hp2 := ((unhide HP).drewN 1).below hbel2 (unhide HP).lt; have hf2 := ((unhide HF).drewN 1).below hbel2 (unhide HF).lt
                 have HF2 := hide hf2; have HT2 := hide (RdT.of_own hown2); have HA2 := hide (fun ad (e : A2 = some ad) => (hown2.lt ad.block (by rw [e]; rfl)).1); have HB2 := hide hbel2
                 have fc2 := endAt hp2; have fd2 := Lnk.cellsAt hf2
                 have fz0 := hf2.frozen 0; have fz1 := hf2.frozen 1; have fz2 := hf2.frozen 2; have fz3 := hf2.frozen 3; have fz4 := hf2.frozen 4; clear hown2 hbel2 hp2 hf2)
  all_goals go_wp2_with fail
  all_goals
    have e0 := (unhide HF2).set_ 0 (.int .i64 0)
    have e1 := e0.set_ 1 (.int .i64 ep)
    have e2 := e1.set_ 2 (.int .i64 0)
    have e3 := e2.set_ 3 (.int .i64 got)
    have e4 := e3.set_ 4 (.slice A2 b.length c2)
    have st := (((Stays.setCell (i := 0) (v := .int .i64 0) (unhide HF2) (by decide)).trans (Stays.setCell (i := 1) (v := .int .i64 ep) e0 (by decide))).trans (Stays.setCell (i := 2) (v := .int .i64 0) e1 (by decide))).trans ((Stays.setCell (i := 3) (v := .int .i64 got) e2 (by decide)).trans (Stays.setCell (i := 4) (v := .slice A2 b.length c2) e3 (by decide)))
    have hb2 : Below w.heap.size w w2 := (below_drewN' ((Below.refl _ w).alloc (Nat.le_refl _) (.cells #[.int .i64 0, .int .i64 0, .int .i64 0, .int .i64 0, .slice none 0 0] 31)) _).trans ((unhide HB2).mono (by simp))
    refine bodyPost_ret (results_cell_row rfl _ _ w.heap.size 31 _ (0, 0) _ rfl e4 Try.underlying31 rfl (by kernel_rfl)) rfl ⟨A2, c2, rfl, (unhide HT2).stays st, hcc2, ?_, fun ad e => Nat.le_trans (by simp) (unhide HA2 ad e)⟩
    exact (((((hb2.setCell (Nat.le_refl _) _).setCell (Nat.le_refl _) _).setCell (Nat.le_refl _) _).setCell (Nat.le_refl _) _).setCell (Nat.le_refl _) _)
theorem note_end (p : Nat) (s : LS) (b : List UInt8) (A : Option Addr) (c B : Nat) (w : World) (h : EndAt w p s) (hr : RdB w B A b) (hB : B ≤ w.heap.size) (hb : b.length ≤ 140737488351232) :
    Calls Try.prog 17 #[.pointer (some ⟨p, 0, none⟩), .slice A b.length c] w fun e w' => ∃ A2 c2, e = .returned (.agg #[.int .i64 0, .int .i64 s.ep, .int .i64 0, .int .i64 s.got, .slice A2 b.length c2]) ∧
      RdT w' A2 b ∧ b.length ≤ c2 ∧ Below w.heap.size w w' ∧ (∀ ad, A2 = some ad → w.heap.size ≤ ad.block) := note_walk p s.ep s.sent s.got s.wv s.m b A c B w h.blk hr hB hb
end Go.Proofs.Ytmmkjphkfhgcpaa
