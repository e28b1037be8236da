/- Spoil. -/
import Derived.Test.YtbclfiollfagmaaNetPush
namespace Go.Proofs.Ytbclfiollfagmaa
set_option linter.unusedVariables false
open Go.RowKit

theorem xor_u8 (x y : UInt8) : bits BinOp.xor IntKind.u8 (x.toNat : Int) (y.toNat : Int) = ((x ^^^ y).toNat : Int) := by
  have h1 := x.toNat_lt
  have h2 := y.toNat_lt
  rw [u8_xor_nat _ _ (by omega) (by omega), UInt8.toNat_xor]
theorem spoil_bad (q : Value) (f t i at_ : Int) (m : UInt8) (er : Int) (w : World) (hl : Calls Try.prog 27 #[q, .int .i64 f, .int .i64 t, .int .i64 i] w fun e w' => e = .returned (.int .i64 er) ∧ w = w') (he : er ≠ 0) :
    Calls Try.prog 16 #[q, .int .i64 f, .int .i64 t, .int .i64 i, .int .i64 at_, Bv m] w fun e w' => e = .returned (.int .i64 er) ∧ w = w' := by
  have HL := hide hl
  have f1 : (er == 0) = false := beq_eq_false_iff_ne.2 he
  have f2 : (er != 0) = true := by simp [he]
  clear hl he
  unfold Bv
  go_enter Try.func16, Try.ntmps16
  go_wp2_with (go_at_call 27; refine (unhide HL).mono ?_; rintro _ w2 ⟨rfl, rfl⟩)
  go_ret
  exact ⟨rfl, rfl⟩
set_option maxHeartbeats 1000000 in
theorem spoil_arg (B p : Nat) (s : NS) (a b k : Nat) (at_ : Int) (m : UInt8) (x : Pk) (w : World) (h : NetAt w B p s) (ha : a ≤ 20) (hb : b ≤ 20) (hab : a ≠ b) (hx : (s.ways (a * 21 + b)).ps[k]? = some x) (hbad : at_ < 0 ∨ (x.1.1.length : Int) ≤ at_ ∨ m = 0) :
    Calls Try.prog 16 #[.pointer (some ⟨p, 0, none⟩), .int .i64 (a : Int), .int .i64 (b : Int), .int .i64 (k : Int), .int .i64 at_, Bv m] w fun e w' => e = .returned (.int .i64 1) ∧ w = w' := by
  have hlt : a * 21 + b < 441 := by omega
  have hkl := (List.getElem?_eq_some_iff.1 hx).1
  have HA := hide (at_yes B p s a b k w h ha hb hab hkl)
  obtain ⟨g, cap, hv, hgb, hgl⟩ := (h.row _ hlt).form (by omega)
  have hA : (s.ways (a * 21 + b)).A = some ⟨g, 0, none⟩ := by injection hv
  have hrow := h.row _ hlt
  rw [hdr, hA] at hrow
  obtain ⟨a0, a1⟩ := pkCells_at _ k x hx
  have c0 : w.cell? ⟨g, k * 2, none⟩ = some (.slice x.1.2.1 x.1.1.length x.1.2.2) := (hrow.cellAt (k * 2) (by omega)).trans a0
  have c1 : w.cell? ⟨g, k * 2 + 1, none⟩ = some (.bool x.2) := (hrow.cellAt (k * 2 + 1) (by omega)).trans a1
  have fc : w.cell? ⟨p, a * 21 + b, none⟩ = some (.slice (some ⟨g, 0, none⟩) (s.ways (a * 21 + b)).ps.length (s.ways (a * 21 + b)).c) := by rw [h.cell hlt, hdr, hA]
  have hi0 : (0 : Int) ≤ (a : Int) := by omega
  have hi1 : (a : Int) < 21 := by omega
  have hi2 : (0 : Int) ≤ (b : Int) := by omega
  have hi3 : (b : Int) < 21 := by omega
  have hi4 : (0 : Int) ≤ (k : Int) := by omega
  have hi5 : (k : Int) < ((s.ways (a * 21 + b)).ps.length : Int) := by omega
  clear h hab hx hv hrow hA a0 a1 hgb hgl
  unfold Bv
  by_cases q1 : at_ < 0
  · have f1 : decide (at_ < 0) = true := decide_eq_true q1
    clear hbad
    go_enter Try.func16, Try.ntmps16
    go_wp2_with (go_at_call 27; refine (unhide HA).mono ?_; rintro _ w2 ⟨rfl, rfl⟩)
    go_ret
    exact ⟨rfl, rfl⟩
  · have f1 : decide (at_ < 0) = false := decide_eq_false q1
    by_cases q2 : (x.1.1.length : Int) ≤ at_
    · have f2 : decide ((x.1.1.length : Int) ≤ at_) = true := decide_eq_true q2
      clear hbad
      go_enter Try.func16, Try.ntmps16
      go_wp2_with (go_at_call 27; refine (unhide HA).mono ?_; rintro _ w2 ⟨rfl, rfl⟩)
      go_ret
      exact ⟨rfl, rfl⟩
    · have f2 : decide ((x.1.1.length : Int) ≤ at_) = false := decide_eq_false q2
      have q3 : m = 0 := by rcases hbad with h | h | h <;> first | omega | exact h
      subst q3
      have f3 : ((UInt8.toNat 0 : Nat) : Int) = 0 := rfl
      clear hbad
      go_enter Try.func16, Try.ntmps16
      go_wp2_with (go_at_call 27; refine (unhide HA).mono ?_; rintro _ w2 ⟨rfl, rfl⟩)
      go_ret
      exact ⟨rfl, rfl⟩
set_option maxHeartbeats 1000000 in
theorem spoil_there (B p : Nat) (s : NS) (a b k : Nat) (at_ : Nat) (m : UInt8) (x : Pk) (w : World) (h : NetAt w B p s) (ha : a ≤ 20) (hb : b ≤ 20) (hab : a ≠ b) (hx : (s.ways (a * 21 + b)).ps[k]? = some x) (h1 : at_ < x.1.1.length) (h2 : m ≠ 0) (h3 : x.2 = true) :
    Calls Try.prog 16 #[.pointer (some ⟨p, 0, none⟩), .int .i64 (a : Int), .int .i64 (b : Int), .int .i64 (k : Int), .int .i64 (at_ : Int), Bv m] w fun e w' => e = .returned (.int .i64 8) ∧ w = w' := by
  have hlt : a * 21 + b < 441 := by omega
  have hkl := (List.getElem?_eq_some_iff.1 hx).1
  have HA := hide (at_yes B p s a b k w h ha hb hab hkl)
  obtain ⟨g, cap, hv, hgb, hgl⟩ := (h.row _ hlt).form (by omega)
  have hA : (s.ways (a * 21 + b)).A = some ⟨g, 0, none⟩ := by injection hv
  have hrow := h.row _ hlt
  rw [hdr, hA] at hrow
  obtain ⟨a0, a1⟩ := pkCells_at _ k x hx
  have c0 : w.cell? ⟨g, k * 2, none⟩ = some (.slice x.1.2.1 x.1.1.length x.1.2.2) := (hrow.cellAt (k * 2) (by omega)).trans a0
  have c1 : w.cell? ⟨g, k * 2 + 1, none⟩ = some (.bool x.2) := (hrow.cellAt (k * 2 + 1) (by omega)).trans a1
  have fc : w.cell? ⟨p, a * 21 + b, none⟩ = some (.slice (some ⟨g, 0, none⟩) (s.ways (a * 21 + b)).ps.length (s.ways (a * 21 + b)).c) := by rw [h.cell hlt, hdr, hA]
  have hi0 : (0 : Int) ≤ (a : Int) := by omega
  have hi1 : (a : Int) < 21 := by omega
  have hi2 : (0 : Int) ≤ (b : Int) := by omega
  have hi3 : (b : Int) < 21 := by omega
  have hi4 : (0 : Int) ≤ (k : Int) := by omega
  have hi5 : (k : Int) < ((s.ways (a * 21 + b)).ps.length : Int) := by omega
  rw [h3] at c1
  clear h hab hx hv hrow hA a0 a1 hgb hgl h3
  unfold Bv
  have f1 : decide ((at_ : Int) < 0) = false := decide_eq_false (by omega)
  have f2 : decide ((x.1.1.length : Int) ≤ (at_ : Int)) = false := decide_eq_false (by omega)
  have f2' : decide (x.1.1.length ≤ at_) = false := decide_eq_false (by omega)
  have f3 : ((m.toNat : Int) == 0) = false := beq_eq_false_iff_ne.2 (fun e => h2 (UInt8.toNat_inj.1 (by simpa using e)))
  go_enter Try.func16, Try.ntmps16
  go_wp2_with (go_at_call 27; refine (unhide HA).mono ?_; rintro _ w2 ⟨rfl, rfl⟩)
  go_ret
  exact ⟨rfl, rfl⟩
def SpoiltP (w : World) (B p : Nat) (s : NS) (i k at_ : Nat) (m : UInt8) (x : Pk) (e : Ending) (w' : World) : Prop := e = .returned (.int .i64 0) ∧ NStep w w' B p s (s.put i ⟨(s.ways i).A, (s.ways i).c, (s.ways i).ps.set k ((x.1.1.set at_ (x.1.1[at_]! ^^^ m), x.1.2), true)⟩)
set_option maxHeartbeats 1000000 in
theorem spoil_ok (B p : Nat) (s : NS) (a b k : Nat) (at_ : Nat) (m : UInt8) (x : Pk) (w : World) (h : NetAt w B p s) (ha : a ≤ 20) (hb : b ≤ 20) (hab : a ≠ b) (hx : (s.ways (a * 21 + b)).ps[k]? = some x) (h1 : at_ < x.1.1.length) (h2 : m ≠ 0) (h3 : x.2 = false) :
    Calls Try.prog 16 #[.pointer (some ⟨p, 0, none⟩), .int .i64 (a : Int), .int .i64 (b : Int), .int .i64 (k : Int), .int .i64 (at_ : Int), Bv m] w (SpoiltP w B p s (a * 21 + b) k at_ m x) := by
  have hlt : a * 21 + b < 441 := by omega
  have hkl := (List.getElem?_eq_some_iff.1 hx).1
  have HA := hide (at_yes B p s a b k w h ha hb hab hkl)
  obtain ⟨g, cap, hv, hgb, hgl⟩ := (h.row _ hlt).form (by omega)
  have hA : (s.ways (a * 21 + b)).A = some ⟨g, 0, none⟩ := by injection hv
  have hrow := h.row _ hlt
  rw [hdr, hA] at hrow
  obtain ⟨a0, a1⟩ := pkCells_at _ k x hx
  have c0 : w.cell? ⟨g, k * 2, none⟩ = some (.slice x.1.2.1 x.1.1.length x.1.2.2) := (hrow.cellAt (k * 2) (by omega)).trans a0
  have c1 : w.cell? ⟨g, k * 2 + 1, none⟩ = some (.bool x.2) := (hrow.cellAt (k * 2 + 1) (by omega)).trans a1
  have fc : w.cell? ⟨p, a * 21 + b, none⟩ = some (.slice (some ⟨g, 0, none⟩) (s.ways (a * 21 + b)).ps.length (s.ways (a * 21 + b)).c) := by rw [h.cell hlt, hdr, hA]
  have hi0 : (0 : Int) ≤ (a : Int) := by omega
  have hi1 : (a : Int) < 21 := by omega
  have hi2 : (0 : Int) ≤ (b : Int) := by omega
  have hi3 : (b : Int) < 21 := by omega
  have hi4 : (0 : Int) ≤ (k : Int) := by omega
  have hi5 : (k : Int) < ((s.ways (a * 21 + b)).ps.length : Int) := by omega
  rw [h3] at c1
  obtain ⟨gb, cb, hvb, hbb, hbl⟩ := (h.body _ k x hlt hx).form (by omega)
  obtain ⟨⟨l, ⟨Ab, cc⟩⟩, sp⟩ := x
  have hAb : Ab = some ⟨gb, 0, none⟩ := by injection hvb
  subst hAb
  simp only at h1 h3 c0 c1
  subst h3
  have hbody := h.body _ k _ hlt hx
  simp only [bv] at hbody
  have cy : w.cell? ⟨gb, at_, none⟩ = some (Bv l[at_]) := (hbody.cellAt at_ (by omega)).trans (by rw [List.getElem?_map, List.getElem?_eq_getElem h1]; rfl)
  have eg : l[at_]! = l[at_] := getElem!_pos l at_ h1
  have H := hide (h.spoilt hlt hx hA h1 (l[at_] ^^^ m))
  have hne1 : gb ≠ g := fun e => h.rb hlt hlt hx (g := g) (by rw [hdr, hA]; rfl) (by simp [bv, Value.ownBlock, e])
  have HX := hide (xor_u8 l[at_] m)
  obtain ⟨cur1, hk1⟩ := own_blk hbody rfl
  obtain ⟨cur2, hk2⟩ := own_blk hrow rfl
  have z1 := hk1.frozen at_
  have z2 := hk2.frozen (k * 2 + 1)
  unfold Bv at cy
  clear h hab hx hv hrow hA a0 a1 hgb hgl hvb hbb hbl hbody hk1 hk2
  show Calls _ _ #[_, _, _, _, _, .int .u8 (m.toNat : Int)] _ _
  have f1 : decide ((at_ : Int) < 0) = false := decide_eq_false (by omega)
  have f2 : decide ((l.length : Int) ≤ (at_ : Int)) = false := decide_eq_false (by omega)
  have f2' : decide (l.length ≤ at_) = false := decide_eq_false (by omega)
  have f3 : ((m.toNat : Int) == 0) = false := beq_eq_false_iff_ne.2 (fun e => h2 (UInt8.toNat_inj.1 (by simpa using e)))
  have hj4 : (0 : Int) ≤ (at_ : Int) := by omega
  have hj5 : (at_ : Int) < (l.length : Int) := by omega
  have HEG := hide eg
  clear eg
  go_enter Try.func16, Try.ntmps16
  go_wp2_with (go_at_call 27; refine (unhide HA).mono ?_; rintro _ w2 ⟨rfl, rfl⟩)
  go_ret
  obtain ⟨d1, d2, d3⟩ := unhide H
  have hxo := unhide HX
  refine ⟨rfl, ?_⟩
  rw [hxo]
  simp only [unhide HEG]
  exact ⟨d1, d2, fun g hg => .inl (d3 g hg)⟩
end Go.Proofs.Ytbclfiollfagmaa
