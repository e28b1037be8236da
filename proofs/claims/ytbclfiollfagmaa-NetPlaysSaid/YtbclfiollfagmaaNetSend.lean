/- Send. -/
import Derived.Test.YtbclfiollfagmaaNetStep
import Derived.Test.YtbclfiollfagmaaNetLook
namespace Go.Proofs.Ytbclfiollfagmaa
set_option linter.unusedVariables false
open Go.RowKit

theorem pkinfo : (Try.prog.info? 36).map (fun i => (i.zero, i.size, i.bytes)) = some (some (.agg #[.slice none 0 0, .bool false]), 2, 32) := by kernel_rfl
theorem send_nil (f t : Int) (v : Value) (w : World) : Calls Try.prog 11 #[.pointer none, .int .i64 f, .int .i64 t, v] w fun e w' => e = .returned (.int .i64 1) ∧ w = w' := by
  go_enter Try.func11, Try.ntmps11
  go_wp2_with fail
  go_ret
  exact ⟨rfl, rfl⟩
theorem send_away (p : Nat) (f t : Int) (v : Value) (w : World) (h : ¬ Rt f t) : Calls Try.prog 11 #[.pointer (some ⟨p, 0, none⟩), .int .i64 f, .int .i64 t, v] w fun e w' => e = .returned (.int .i64 1) ∧ w = w' := by
  have HR := hide (fun u => right_no f t u h)
  clear h
  go_enter Try.func11, Try.ntmps11
  go_wp2_with (go_at_call 26; refine (unhide HR _).mono ?_; rintro _ w2 ⟨rfl, rfl⟩)
  go_ret
  exact ⟨rfl, rfl⟩
set_option maxHeartbeats 1000000 in
theorem send_full (B p : Nat) (s : NS) (a b : Nat) (v : Value) (w : World) (h : NetAt w B p s) (ha : a ≤ 20) (hb : b ≤ 20) (hab : a ≠ b) (hn : 48 ≤ (s.ways (a * 21 + b)).ps.length) (hl0 : 0 ≤ s.lost) (hl : s.lost ≤ 1000000) :
    Calls Try.prog 11 #[.pointer (some ⟨p, 0, none⟩), .int .i64 (a : Int), .int .i64 (b : Int), v] w fun e w' => e = .returned (.int .i64 9) ∧ NStep w w' B p s { s with lost := s.lost + 1 } := by
  have hlt : a * 21 + b < 441 := by omega
  have fc : w.cell? ⟨p, a * 21 + b, none⟩ = some (.slice (s.ways (a * 21 + b)).A (s.ways (a * 21 + b)).ps.length (s.ways (a * 21 + b)).c) := h.cell hlt
  have fl := h.cellLost
  have fz := h.blk.frozen 441
  have HR := hide (fun u => right_yes a b u ha hb hab)
  have g1 : decide ((48 : Int) ≤ ((s.ways (a * 21 + b)).ps.length : Int)) = true := decide_eq_true (by omega)
  have H := hide (h.setLost (s.lost + 1))
  clear hab h
  go_enter Try.func11, Try.ntmps11
  go_wp2_with (go_at_call 26; refine (unhide HR _).mono ?_; rintro _ w2 ⟨rfl, rfl⟩)
  go_ret
  exact ⟨rfl, (unhide H).1, (unhide H).2.mono (fun g _ hg => .inl hg), fun g hg => .inl hg⟩
def SentN (w : World) (B p : Nat) (s : NS) (i : Nat) (l : List UInt8) (e : Ending) (w' : World) : Prop := e = .returned (.int .i64 0) ∧ ∃ A4 c4 A2 c2, NStep w w' B p s (s.put i ⟨A4, c4, (s.ways i).ps ++ [((l, A2, c2), false)]⟩)
set_option maxHeartbeats 1000000 in
set_option maxRecDepth 20000 in
theorem send_ok (B p : Nat) (s : NS) (a b : Nat) (l : List UInt8) (A : Option Addr) (c Bb : Nat) (w : World) (h : NetAt w B p s) (ha : a ≤ 20) (hb : b ≤ 20) (hab : a ≠ b) (hn : (s.ways (a * 21 + b)).ps.length < 48) (hr : RdB w Bb A l) (hBb : Bb ≤ w.heap.size) (hl : l.length ≤ 4096) :
    Calls Try.prog 11 #[.pointer (some ⟨p, 0, none⟩), .int .i64 (a : Int), .int .i64 (b : Int), .slice A l.length c] w (SentN w B p s (a * 21 + b) l) := by
  obtain ⟨i0, hi, hz0, hz1, hz2⟩ := info_parts u8info
  obtain ⟨j0, hj, hy0, hy1, hy2⟩ := info_parts pkinfo
  have hlt : a * 21 + b < 441 := by omega
  have fc : w.cell? ⟨p, a * 21 + b, none⟩ = some (.slice (s.ways (a * 21 + b)).A (s.ways (a * 21 + b)).ps.length (s.ways (a * 21 + b)).c) := h.cell hlt
  have fz := h.blk.frozen (a * 21 + b)
  have HR := hide (fun u => right_yes a b u ha hb hab)
  have g1 : decide ((48 : Int) ≤ ((s.ways (a * 21 + b)).ps.length : Int)) = false := decide_eq_false (by omega)
  have HN := hide h
  have hBs : B ≤ w.heap.size := Nat.le_of_lt (Nat.lt_of_le_of_lt h.ge h.blk.lt)
  have HRn : Hid (∀ n : Nat, RdB (w.drewN n) Bb A l) := hide (fun n => hr.drewN n)
  have hpl := h.blk.lt
  have hi0 : (0 : Int) ≤ (a : Int) := by omega
  have hi1 : (a : Int) < 21 := by omega
  have hi2 : (0 : Int) ≤ (b : Int) := by omega
  have hi3 : (b : Int) < 21 := by omega
  clear hab h hr
  go_enter Try.func11, Try.ntmps11
  go_upto_region 6 with (go_at_call 26; refine (unhide HR _).mono ?_; rintro _ w2 ⟨rfl, rfl⟩)
  go_region_law (first
    | (refine step_append_any _ rfl (.const (.slice none 0 0)) (.tmp 45) _ rfl w.heap.size 5 i0 _ 1 1 Try.underlying31 hi hz0 hz1 hz2 rfl (by omega) _ 0 [] (by rfl) (own_nil _ _ _ _) _ A l.length c _ (by first | (with_reducible rfl) | go_simp) (unhide HRn _).v (by simp) oneCell_Bv (by simp only [maxLen]; omega) (by omega) (by simp) ?_
       intro A2 c2 w2 hown2 hg2 hat2 hbel2 hcc2
       rw [Nat.zero_add, List.nil_append] at hown2; rw [Nat.zero_add] at hcc2 ⊢
       have hb2 : Below w.heap.size w w2 := ⟨hbel2.os, hbel2.tape, hbel2.output, hbel2.size, hbel2.block⟩
       have hn2 := (unhide HN).new hb2
       have HO2 := hide hown2; have HB2 := hide hb2; have HN2 := hide hn2; have fc2 : w2.cell? ⟨p, a * 21 + b, none⟩ = some (.slice (s.ways (a * 21 + b)).A (s.ways (a * 21 + b)).ps.length (s.ways (a * 21 + b)).c) := hn2.cell hlt
       have HS2 : Hid ((w2.alloc (.cells #[.slice A2 l.length c2, .bool false] 36)).ownsRow B 36 2 (.slice (s.ways (a * 21 + b)).A (s.ways (a * 21 + b)).ps.length (s.ways (a * 21 + b)).c) (s.ways (a * 21 + b)).ps.length (pkCells (s.ways (a * 21 + b)).ps)) := hide ((hn2.row _ hlt).alloc _)
       have fz2 := hn2.blk.frozen (a * 21 + b); have hs2 := hb2.size; have hpl2 : p < w2.heap.size := hn2.blk.lt; clear hown2 hg2 hat2 hbel2 hb2 hn2)
    | (refine step_append_any _ rfl (.tmp 44) (.tmp 48) _ rfl B 36 j0 _ 2 32 Try.underlying59 hj hy0 hy1 hy2 rfl (by omega) _ (s.ways (a * 21 + b)).ps.length _ (by rfl) (unhide HS2) _ _ 1 1 _ (by rfl) (RdV.of_own (base := 0) (size := 2) (World.ownsRow_lit w2 #[.slice A2 l.length c2, .bool false] 1 (Nat.zero_le _) (by simp [maxLen]) rfl)) rfl (by intro u hu; simp at hu; rcases hu with rfl | rfl <;> rfl) (by simp only [maxLen]; omega) (by omega) (by simp; omega) ?_
       intro A4 c4 w4 hown4 hg4 hat4 hbel4 hcc4
       have hst := (unhide HN2).push hlt (x := ((l, A2, c2), false)) (own_more (unhide HO2) (fun k hk => by have := ((unhide HO2).lt k hk).1; omega)) (fun g hg hf => by have h1 := ((unhide HO2).lt g hg).1; have h2 := ((unhide HN).foot hf).2; omega) hl hn hown4 hg4 hat4
       have HST := hide hst
       have hq4 := ((unhide HN2).blk.alloc (.cells #[.slice A2 l.length c2, .bool false] 36)).grown hg4 (fun e => (unhide HN2).pr hlt e.symm)
       have fc4 : w4.cell? ⟨p, a * 21 + b, none⟩ = some (.slice (s.ways (a * 21 + b)).A (s.ways (a * 21 + b)).ps.length (s.ways (a * 21 + b)).c) := (by rw [hq4.cell, netCells_way s hlt]; rfl)
       have fz4 := hq4.frozen (a * 21 + b); clear hown4 hg4 hat4 hbel4 hst hq4))
  all_goals go_wp2_with fail
  all_goals
    go_ret
    obtain ⟨h1, h2, h3⟩ := unhide HST
    refine ⟨rfl, A4, c4, A2, c2, h1, (Only.of_new (unhide HB2)).trans h2, fun g hg => ?_⟩
    rcases h3 g hg with h4 | h4 | h4
    · exact .inl h4
    · exact .inr (by omega)
    · exact .inr ((unhide HO2).lt g h4).1
end Go.Proofs.Ytbclfiollfagmaa
