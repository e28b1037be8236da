/- Lose, Twice, Back. -/
import Derived.Test.YtbclfiollfagmaaNetTake
namespace Go.Proofs.Ytbclfiollfagmaa
set_option linter.unusedVariables false
open Go.RowKit

def ErrN (w : World) (er : Int) (e : Ending) (w' : World) : Prop := e = .returned (.int .i64 er) ∧ Below w.heap.size w w'
theorem lose_bad (q : Value) (f t i er : Int) (w : World) (hl : Calls Try.prog 18 #[q, .int .i64 f, .int .i64 t, .int .i64 i] w (ErrPk w er)) (he : er ≠ 0) :
    Calls Try.prog 25 #[q, .int .i64 f, .int .i64 t, .int .i64 i] w (ErrN w er) := by
  have HL := hide hl
  have f1 : (er == 0) = false := beq_eq_false_iff_ne.2 he
  have HM0 := hide (Mem.start w)
  clear hl he
  go_enter Try.func25, Try.ntmps25
  go_wp2_with (first
    | (go_at_call 18; refine (unhide HL).mono ?_; rintro _ w2 ⟨rfl, hb2⟩; have HM1 := hide ((unhide HM0).called hb2); have HM2 := hide ((unhide HM1).new (t := 36) (cs := #[.slice none 0 0, .bool false]) w2.heap.size rfl); clear hb2)
    | (refine wpList_store_blk rfl 36 (.tmp 9) (.tmp 17) rfl (w2.heap.size) _ (by rfl) (by rfl) 36 _ (unhide HM2).blk0 (by kernel_rfl) (by rfl) (by simp [Value.oneCell']) ?_; intro w3 hbS hgS; have HM3 := hide ((unhide HM2).grown0 hbS hgS); have HGw3 := hide hgS; clear hbS hgS))
  go_ret
  exact ⟨rfl, (unhide HM3).below⟩
def LostP (w : World) (B p : Nat) (s : NS) (i k : Nat) (e : Ending) (w' : World) : Prop := e = .returned (.int .i64 0) ∧ ∃ A3 c3, NStep w w' B p s { s.put i ⟨A3, c3, (s.ways i).ps.eraseIdx k⟩ with lost := s.lost + 1 }
set_option maxHeartbeats 1000000 in
set_option maxRecDepth 20000 in
theorem lose_yes (B p : Nat) (s : NS) (a b k : Nat) (x : Pk) (w : World) (h : NetAt w B p s) (ha : a ≤ 20) (hb : b ≤ 20) (hab : a ≠ b) (hx : (s.ways (a * 21 + b)).ps[k]? = some x) (hl0 : 0 ≤ s.lost) (hl : s.lost ≤ 1000000) :
    Calls Try.prog 25 #[.pointer (some ⟨p, 0, none⟩), .int .i64 (a : Int), .int .i64 (b : Int), .int .i64 (k : Int)] w (LostP w B p s (a * 21 + b) k) := by
  have HL := hide (take_yes B p s a b k x w h ha hb hab hx)
  have hlt : a * 21 + b < 441 := by omega
  clear h hab hx
  go_enter Try.func25, Try.ntmps25
  go_upto_region 2 with (first
    | (go_at_call 18; refine (unhide HL).mono ?_; rintro _ w2 ⟨A2, c2, A3, c3, rfl, hst, ho2⟩; have HST := hide hst; have HM2 := hide ((Mem.start w2).new (t := 36) (cs := #[.slice none 0 0, .bool false]) w2.heap.size rfl); clear hst ho2)
    | (refine wpList_store_blk rfl 36 (.tmp 9) (.tmp 17) rfl (w2.heap.size) _ (by rfl) (by rfl) 36 _ (unhide HM2).blk0 (by kernel_rfl) (by rfl) (by simp [Value.oneCell']) ?_; intro w3 hbS hgS; have HM3 := hide ((unhide HM2).grown0 hbS hgS); have HGw3 := hide hgS; clear hbS hgS))
  have hst3 := (unhide HST).trans (NStep.of_new (unhide HST).at_ (unhide HM3).below)
  have HST3 := hide hst3
  have fl : w3.cell? ⟨p, 441, none⟩ = some (.int .i64 s.lost) := hst3.at_.cellLost
  have fz := hst3.at_.blk.frozen 441
  have H := hide (hst3.at_.setLost (s.lost + 1))
  clear hst3
  go_wp2_with fail
  go_ret
  refine ⟨rfl, A3, c3, (unhide HST3).trans ⟨(unhide H).1, (unhide H).2.mono (fun g _ hg => .inl hg), fun g hg => .inl hg⟩⟩
theorem twice_bad (q : Value) (f t i er : Int) (w : World) (hl : Calls Try.prog 17 #[q, .int .i64 f, .int .i64 t, .int .i64 i] w (ErrPk w er)) (he : er ≠ 0) :
    Calls Try.prog 14 #[q, .int .i64 f, .int .i64 t, .int .i64 i] w (ErrN w er) := by
  have HL := hide hl
  have f1 : (er == 0) = false := beq_eq_false_iff_ne.2 he
  have f2 : (er != 0) = true := by simp [he]
  have HM0 := hide (Mem.start w)
  clear hl he
  go_enter Try.func14, Try.ntmps14
  go_wp2_with (first
    | (go_at_call 17; refine (unhide HL).mono ?_; rintro _ w2 ⟨rfl, hb2⟩; have HM1 := hide ((unhide HM0).called hb2); have HM2 := hide ((unhide HM1).new (t := 36) (cs := #[.slice none 0 0, .bool false]) w2.heap.size rfl); clear hb2)
    | (refine wpList_store_blk rfl 36 (.tmp 9) (.tmp 17) rfl (w2.heap.size) _ (by rfl) (by rfl) 36 _ (unhide HM2).blk0 (by kernel_rfl) (by rfl) (by simp [Value.oneCell']) ?_; intro w3 hbS hgS; have HM3 := hide ((unhide HM2).grown0 hbS hgS); have HGw3 := hide hgS; clear hbS hgS))
  go_ret
  exact ⟨rfl, (unhide HM3).below⟩
theorem back_bad (q : Value) (f t i er : Int) (w : World) (hl : Calls Try.prog 18 #[q, .int .i64 f, .int .i64 t, .int .i64 i] w (ErrPk w er)) (he : er ≠ 0) :
    Calls Try.prog 15 #[q, .int .i64 f, .int .i64 t, .int .i64 i] w (ErrN w er) := by
  have HL := hide hl
  have f1 : (er == 0) = false := beq_eq_false_iff_ne.2 he
  have HM0 := hide (Mem.start w)
  clear hl he
  go_enter Try.func15, Try.ntmps15
  go_wp2_with (first
    | (go_at_call 18; refine (unhide HL).mono ?_; rintro _ w2 ⟨rfl, hb2⟩; have HM1 := hide ((unhide HM0).called hb2); have HM2 := hide ((unhide HM1).new (t := 36) (cs := #[.slice none 0 0, .bool false]) w2.heap.size rfl); clear hb2)
    | (refine wpList_store_blk rfl 36 (.tmp 9) (.tmp 17) rfl (w2.heap.size) _ (by rfl) (by rfl) 36 _ (unhide HM2).blk0 (by kernel_rfl) (by rfl) (by simp [Value.oneCell']) ?_; intro w3 hbS hgS; have HM3 := hide ((unhide HM2).grown0 hbS hgS); have HGw3 := hide hgS; clear hbS hgS))
  go_ret
  exact ⟨rfl, (unhide HM3).below⟩
/-- what stands when a packet is about to be put behind a way: the net, a new packet with bytes of its own -/
structure Ready (w w3 : World) (B p : Nat) (s s3 : NS) (i g : Nat) (x : Pk) : Prop where
  step : NStep w w3 B p s s3
  own : w3.ownsRow w.heap.size 5 1 (bv x.1) x.1.1.length (x.1.1.map Bv)
  free : ∀ k, (bv x.1).ownBlock = some k → ¬ NFoot p s3 k
  small : x.1.1.length ≤ 4096
  room : (s3.ways i).ps.length < 48
theorem Ready.done {w w3 w4 : World} {B p i g : Nat} {s s3 : NS} {x : Pk} (h : Ready w w3 B p s s3 i g x) (hB : B ≤ w.heap.size) (hi : i < 441) {A : Option Addr} {c : Nat} {o : Obj}
    (hown : w4.ownsRow B 36 2 (.slice A ((s3.ways i).ps.length + 1) c) ((s3.ways i).ps.length + 1) (pkCells (s3.ways i).ps ++ [bv x.1, .bool x.2])) (hg : (w3.alloc o).drew.grownBy w4 (hdr (s3.ways i)).ownBlock)
    (hat : (Value.slice A ((s3.ways i).ps.length + 1) c).ownBlock = (hdr (s3.ways i)).ownBlock ∨ (Value.slice A ((s3.ways i).ps.length + 1) c).ownBlock = some (w3.alloc o).drew.heap.size) :
    NStep w (w4.setCell ⟨p, i, none⟩ (.slice A ((s3.ways i).ps.length + 1) c)) B p s (s3.put i ⟨A, c, (s3.ways i).ps ++ [x]⟩) := by
  obtain ⟨h1, h2, h3⟩ := NetAt.push (w1 := w3.drew) (h.step.at_.drewN 1) hi (x := x) (own_more h.own (fun g hg => by have := (h.own.lt g hg).1; omega)) h.free h.small h.room hown hg hat
  have h2' : Only (NFoot p s3) w3 (w4.setCell ⟨p, i, none⟩ (.slice A ((s3.ways i).ps.length + 1) c)) := ⟨h2.os, h2.tape, h2.output, h2.size, h2.block⟩
  refine ⟨h1, h.step.only.trans' h2' h.step.foot, fun g hg => ?_⟩
  rcases h3 g hg with h4 | h4 | h4
  · exact h.step.foot g h4
  · exact .inr (Nat.le_trans h.step.only.size h4)
  · exact .inr ((h.own.lt g h4).1)
end Go.Proofs.Ytbclfiollfagmaa
