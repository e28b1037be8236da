/- The walk of the document's num: reading short numbers. The document's reader: stop, wide, short, most, bytes, text, number. The document's reading of the parts 0 to 4. -/
import Derived.Test.YtkgacehnpdijaaaNumTake
import Derived.Test.YtkgacehnpdijaaaWireRdB
import Derived.Test.YtkgacehnpdijaaaWireRdA
import Derived.Test.YtkgacehnpdijaaaWireEq
import Derived.Test.YtkgacehnpdijaaaWirePutT
namespace Go.Proofs.Ytkgacehnpdijaaa
set_option linter.unusedVariables false
open Go.RowKit

theorem Num.by_step {p k : Nat} (hp : p = 128 ^ k) (hk : k < 9) : IntKind.u64.wrap ((p : Int) * 128) = ((128 ^ (k + 1) : Nat) : Int) := by
  have a3 : 128 ^ (k + 1) ≤ 128 ^ 9 := Nat.pow_le_pow_right (by omega) (by omega)
  have a4 := Num.pow9
  have e : ((p : Int) * 128) = ((128 ^ (k + 1) : Nat) : Int) := by rw [hp, Nat.pow_succ, Int.natCast_mul]; rfl
  rw [e, Num.wrap_nat (by omega)]
theorem Num.mul_any {p n k c d : Nat} (hp : p = 128 ^ k) (hn : n < 128 ^ k) (hd : (k < 9 ∧ d < 128) ∨ (k = 9 ∧ d ≤ 1)) (he : c % 128 = d) :
    IntKind.u64.wrap ((n : Int) + IntKind.u64.wrap ((p : Int) * ((c : Int) % 128))) = ((n + d * 128 ^ k : Nat) : Int) := by
  have hf := Num.fits hn hd
  have e1 : ((p : Int) * ((c : Int) % 128)) = ((d * 128 ^ k : Nat) : Int) := by rw [hp, ← he, Nat.mul_comm, Int.natCast_mul, Int.natCast_emod]; rfl
  have e2 : ((n : Int) + ((d * 128 ^ k : Nat) : Int)) = ((n + d * 128 ^ k : Nat) : Int) := (Int.natCast_add _ _).symm
  rw [e1, Num.wrap_nat (by omega), e2, Num.wrap_nat hf]
theorem Num.mul_end {p n k c : Nat} (hp : p = 128 ^ k) (hn : n < 128 ^ k) (hc : c < 128) (hk : k < 9 ∨ (k = 9 ∧ c ≤ 1)) :
    IntKind.u64.wrap ((n : Int) + IntKind.u64.wrap ((p : Int) * ((c : Int) % 128))) = ((n + c * 128 ^ k : Nat) : Int) :=
  Num.mul_any hp hn (by omega) (by omega)
theorem Num.mul_on {p n k c : Nat} (hp : p = 128 ^ k) (hn : n < 128 ^ k) (hc : 128 ≤ c) (hb : c < 256) (hk : k < 9) :
    IntKind.u64.wrap ((n : Int) + IntKind.u64.wrap ((p : Int) * ((c : Int) % 128))) = ((n + (c - 128) * 128 ^ k : Nat) : Int) :=
  Num.mul_any hp hn (by omega) (by omega)

set_option maxHeartbeats 1000000 in
set_option maxRecDepth 20000 in
theorem refTakeUvar_any (l : List UInt8) (A : Option Addr) (c B : Nat) (w : World) (hr : RdB w B A l) (hl : l.length ≤ 4611686018427387904) :
    Calls Try.prog 73 #[.slice A l.length c] w fun e w' => e = .returned (.tuple #[.int .u64 ((Num.take l).1 : Int), .int .i64 ((Num.take l).2.1 : Int), .int .i64 (Num.take l).2.2]) ∧ w = w' := by
  go_enter Try.func73, Try.ntmps73
  go_wp2
  go_loop [5, 6, 7] (fun t y i => ∃ k n p : Nat, k ≤ l.length ∧ k ≤ 9 ∧ Num.take l = Num.tk k n (l.drop k) ∧ n < 128 ^ k ∧ p = 128 ^ k ∧ i = .int .i64 k ∧ t = .int .u64 (n : Int) ∧ y = .int .u64 (p : Int)) (fun _ _ i => l.length - (intOf i).toNat)
  case atStart => exact ⟨0, 0, 1, by omega, by omega, rfl, by omega, rfl, rfl, rfl, rfl⟩
  case round =>
    obtain ⟨k, n, p, hk, hk9, HT, hn, hp, rfl, rfl, rfl⟩ := hrel
    by_cases hlt : k < l.length
    · obtain ⟨ad, rfl, hc⟩ := hr.at_ hlt
      rw [Num.drop_cons l k hlt] at HT
      generalize l[k] = c at hc HT
      have hb : c.toNat < 256 := c.toNat_lt
      have HH := hide HT
      have HNN := hide hn
      have HP := hide hp
      clear HT hn hp
      rcases Nat.lt_or_ge k 9 with h9 | h9
      · rcases Nat.lt_or_ge 0 k with k0 | k0
        · rcases Nat.lt_or_ge 0 c.toNat with c0 | c0
          · rcases Nat.lt_or_ge c.toNat 128 with c8 | c8
            · have HF := hide ((unhide HH).trans (Num.tk_end (by omega) c8))
              have HN := hide (Num.mul_end (unhide HP) (unhide HNN) c8 (.inl h9))
              go_wp2
              go_ret3
              exact ⟨ret_eq (by rw [unhide HF]; exact Num.tup3 (unhide HN) rfl rfl), rfl⟩
            · have HF := hide ((unhide HH).trans (Num.tk_on (by omega) c8))
              have HN := hide (Num.mul_on (unhide HP) (unhide HNN) c8 hb h9)
              go_wp2
              go_round
              case rel => exact ⟨k + 1, _, 128 ^ (k + 1), by omega, by omega, unhide HF, Num.on_lt (unhide HNN) hb h9, rfl, by go_num, congrArg (Value.int .u64) (unhide HN), congrArg (Value.int .u64) (Num.by_step (unhide HP) h9)⟩
              case measure => simp [intOf]; omega
          · have HF := hide ((unhide HH).trans (Num.tk_bad (.inr ⟨k0, by omega⟩)))
            go_wp2
            go_ret3
            exact ⟨ret_eq (by rw [unhide HF]; rfl), rfl⟩
        · rcases Nat.lt_or_ge c.toNat 128 with c8 | c8
          · have HF := hide ((unhide HH).trans (Num.tk_end (by omega) c8))
            have HN := hide (Num.mul_end (unhide HP) (unhide HNN) c8 (.inl h9))
            rcases Nat.lt_or_ge 0 c.toNat with c0 | c0
            · have b2 : ((c.toNat : Int) == 0) = false := beq_eq_false_iff_ne.2 (by omega)
              go_wp2
              go_ret3
              exact ⟨ret_eq (by rw [unhide HF]; exact Num.tup3 (unhide HN) rfl rfl), rfl⟩
            · have b2 : ((c.toNat : Int) == 0) = true := beq_iff_eq.2 (by omega)
              go_wp2
              go_ret3
              exact ⟨ret_eq (by rw [unhide HF]; exact Num.tup3 (unhide HN) rfl rfl), rfl⟩
          · have HF := hide ((unhide HH).trans (Num.tk_on (by omega) c8))
            have HN := hide (Num.mul_on (unhide HP) (unhide HNN) c8 hb h9)
            go_wp2
            all_goals go_round
            case rel => exact ⟨k + 1, _, 128 ^ (k + 1), by omega, by omega, unhide HF, Num.on_lt (unhide HNN) hb h9, rfl, by go_num, congrArg (Value.int .u64) (unhide HN), congrArg (Value.int .u64) (Num.by_step (unhide HP) h9)⟩
            case measure => simp [intOf]; omega
      · have b9 : ((k : Int) == 9) = true := beq_iff_eq.2 (by omega)
        have b0 : decide (0 < (k : Int)) = true := decide_eq_true (by omega)
        rcases Nat.lt_or_ge 1 c.toNat with c1 | c1
        · have b1 : decide (1 < (c.toNat : Int)) = true := decide_eq_true (by omega)
          have b2 : ((c.toNat : Int) == 0) = false := beq_eq_false_iff_ne.2 (by omega)
          have HF := hide ((unhide HH).trans (Num.tk_bad (.inl ⟨by omega, c1⟩)))
          go_wp2
          all_goals go_ret3
          all_goals exact ⟨ret_eq (by rw [unhide HF]; rfl), rfl⟩
        · have b1 : decide (1 < (c.toNat : Int)) = false := decide_eq_false (by omega)
          rcases Nat.lt_or_ge 0 c.toNat with c0 | c0
          · have b2 : ((c.toNat : Int) == 0) = false := beq_eq_false_iff_ne.2 (by omega)
            have HF := hide ((unhide HH).trans (Num.tk_end (by omega) (by omega)))
            have HN := hide (Num.mul_end (unhide HP) (unhide HNN) (show c.toNat < 128 by omega) (.inr ⟨by omega, c1⟩))
            go_wp2
            go_ret3
            exact ⟨ret_eq (by rw [unhide HF]; exact Num.tup3 (unhide HN) rfl rfl), rfl⟩
          · have b2 : ((c.toNat : Int) == 0) = true := beq_iff_eq.2 (by omega)
            have HF := hide ((unhide HH).trans (Num.tk_bad (.inr ⟨by omega, by omega⟩)))
            go_wp2
            go_ret3
            exact ⟨ret_eq (by rw [unhide HF]; rfl), rfl⟩
    · have HF := hide HT
      have hd : l.drop k = [] := List.drop_of_length_le (by omega)
      rw [hd] at HF
      clear HT hd hn hp
      go_wp2
      go_ret3
      exact ⟨ret_eq (by rw [unhide HF]; rfl), rfl⟩
end Go.Proofs.Ytkgacehnpdijaaa
namespace Go.Proofs.Ytkgacehnpdijaaa
set_option linter.unusedVariables false
set_option linter.unusedSimpArgs false
open Go.RowKit Wire

/-- the document's reader at R: what is left, or the first fault -/
def QAt (w : World) (R B : Nat) (s : RS) : Prop := ∃ A c l er, Blk w R 69 #[.slice A (List.length l) c, .int .i64 er] ∧ l.length ≤ c ∧ (c ≤ 9223372036854775807 ∧ l.length ≤ 140737488351232) ∧ RdB w B A l ∧ B ≤ R ∧ ((s = .ok l ∧ er = 0) ∨ (s = .error er ∧ er ≠ 0))
theorem QAt.lt {w : World} {R B : Nat} {s : RS} (h : QAt w R B s) : R < w.heap.size := by
  obtain ⟨A, c, l, er, h1, _⟩ := h
  exact h1.lt
theorem QAt.le {w : World} {R B : Nat} {s : RS} (h : QAt w R B s) : B ≤ R := by
  obtain ⟨A, c, l, er, h1, h2, h3, h4, h5, _⟩ := h
  exact h5
theorem QAt.only {w w' : World} {R B : Nat} {s : RS} {S : Nat → Prop} (h : QAt w R B s) (ho : Only S w w') (hS : ∀ k, S k → B ≤ k ∧ k ≠ R) : QAt w' R B s := by
  obtain ⟨A, c, l, er, h1, h2, h3, h4, h5, h6⟩ := h
  refine ⟨A, c, l, er, h1.only ho fun hs => (hS R hs).2 rfl, h2, h3, h4.keep fun p hp => ho.cell (Nat.lt_of_lt_of_le hp (Nat.le_trans h5 (Nat.le_of_lt h1.lt))) fun hs => ?_, h5, h6⟩
  have := (hS _ hs).1
  omega
theorem QAt.nz {w : World} {R B : Nat} {er : Int} (h : QAt w R B (.error er)) : er ≠ 0 := by
  obtain ⟨A, c, l, e, _, _, _, _, _, ⟨h, _⟩ | ⟨h, h2⟩⟩ := h
  · cases h
  · injection h with h; rw [h]; exact h2
/-- what the document's reads come to -/
def QOut {α : Type} (rd : Rd α) (z : α) (val : α → Value) (R B : Nat) (s : RS) (w : World) (e : Ending) (w' : World) : Prop :=
  e = .returned (val (rdV z rd s)) ∧ QAt w' R B (rdS rd s) ∧ Only (fun k => k = R) w w'
theorem qcells {w : World} {R : Nat} {t : TypeId} {a b : Value} (h : Blk w R t #[a, b]) : w.cell? ⟨R, 0, none⟩ = some a ∧ w.cell? ⟨R, 1, none⟩ = some b ∧ w.frozen? ⟨R, 0, none⟩ = false ∧ w.frozen? ⟨R, 1, none⟩ = false := ⟨h.cell 0, h.cell 1, h.frozen 0, h.frozen 1⟩
theorem only_q {w : World} {R : Nat} (i : Nat) (v : Value) : Only (fun k => k = R) w (w.setCell ⟨R, i, none⟩ v) := (Only.refl (fun k => k = R) w).setCell (p := ⟨R, i, none⟩) rfl v
theorem stop_new (R : Nat) (er : Int) (w : World) (sl : Value) (h : Blk w R 69 #[sl, .int .i64 0]) : Calls Try.prog 43 #[.pointer (some ⟨R, 0, none⟩), .int .i64 er] w fun e w' => e = .returned (.tuple #[]) ∧ w.setCell ⟨R, 1, none⟩ (.int .i64 er) = w' := by
  obtain ⟨f0, f1, z0, z1⟩ := qcells h
  clear h
  go_enter Try.func43, Try.ntmps43
  go_wp2_with fail
  refine bodyPost_end (results_none rfl _ _ _) rfl ?_
  exact ⟨rfl, rfl⟩
/-- the first fault -/
theorem QAt.fault {w : World} {R B : Nat} {A : Option Addr} {c : Nat} {l : List UInt8} {er : Int} (hb : Blk w R 69 #[.slice A l.length c, .int .i64 0]) (hc : l.length ≤ c) (hm : c ≤ 9223372036854775807 ∧ l.length ≤ 140737488351232) (hr : RdB w B A l) (hBR : B ≤ R) (he : er ≠ 0) : QAt (w.setCell ⟨R, 1, none⟩ (.int .i64 er)) R B (.error er) :=
  ⟨A, c, l, er, hb.set_ 1 _, hc, hm, hr.setCell (p := ⟨R, 1, none⟩) hBR _, hBR, .inr ⟨rfl, he⟩⟩
theorem stop_any (R B : Nat) (b : List UInt8) (er : Int) (w : World) (h : QAt w R B (.ok b)) (he : er ≠ 0) : Calls Try.prog 43 #[.pointer (some ⟨R, 0, none⟩), .int .i64 er] w fun e w' => e = .returned (.tuple #[]) ∧ QAt w' R B (.error er) ∧ Only (fun k => k = R) w w' := by
  obtain ⟨A, c, l, e0, hb, hc, hm, hr, hBR, ⟨hs, he0⟩ | ⟨hs, _⟩⟩ := h
  · injection hs with hs
    subst hs he0
    refine (stop_new R er w _ hb).mono ?_
    rintro _ _ ⟨rfl, rfl⟩
    exact ⟨rfl, QAt.fault hb hc hm hr hBR he, only_q 1 _⟩
  · cases hs
theorem QAt.movedA {w : World} {R B : Nat} {l : List UInt8} {A : Option Addr} {c k : Nat} (hb : Blk w R 69 #[.slice A l.length c, .int .i64 0]) (hc : l.length ≤ c) (hm : c ≤ 9223372036854775807 ∧ l.length ≤ 140737488351232) (hr : RdB w B A l) (hBR : B ≤ R) (hk : k ≤ l.length) (hkc : k < c) :
    QAt (w.setCell ⟨R, 0, none⟩ (.slice (A.map (·.add k)) (l.length - k) (c - k))) R B (.ok (l.drop k)) := by
  have hl : (l.drop k).length = l.length - k := List.length_drop
  have h2 := hr.cut hk hc
  rw [if_neg (by omega)] at h2
  refine ⟨_, c - k, l.drop k, 0, ?_, by rw [hl]; omega, by rw [hl]; omega, h2.setCell (p := ⟨R, 0, none⟩) hBR _, hBR, .inl ⟨rfl, rfl⟩⟩
  rw [hl]
  exact hb.set_ 0 _
theorem QAt.movedE {w : World} {R B : Nat} {l : List UInt8} {A : Option Addr} {c : Nat} (hb : Blk w R 69 #[.slice A l.length c, .int .i64 0]) (hc : l.length ≤ c) (A' : Option Addr) (hBR : B ≤ R) : QAt (w.setCell ⟨R, 0, none⟩ (.slice A' 0 0)) R B (.ok (l.drop c)) := by
  have hl : l.drop c = [] := List.drop_eq_nil_of_le hc
  rw [hl]
  exact ⟨A', 0, [], 0, hb.set_ 0 _, by simp, by simp, RdB.nil, hBR, .inl ⟨rfl, rfl⟩⟩
/-- a read of a reader that has given up -/
theorem qOut_bad {α : Type} {rd : Rd α} {z : α} {val : α → Value} {R B : Nat} {er : Int} {w : World} {v : Value} (h : QAt w R B (.error er)) (hv : v = val z) : QOut rd z val R B (.error er) w (.returned v) w := ⟨by rw [hv]; rfl, h, Only.refl _ _⟩
theorem qOut_err {α : Type} {rd : Rd α} {z : α} {val : α → Value} {R B : Nat} {b : List UInt8} {er : Int} {w w' : World} {v : Value} (h : rd b = .error er) (hv : v = val z) (hq : QAt w' R B (.error er)) (ho : Only (fun k => k = R) w w') : QOut rd z val R B (.ok b) w (.returned v) w' := ⟨by rw [hv, rdV_err h], by rw [rdS_err h]; exact hq, ho⟩
theorem qOut_ok {α : Type} {rd : Rd α} {z a : α} {val : α → Value} {R B : Nat} {b r : List UInt8} {w w' : World} {v : Value} (h : rd b = .ok (a, r)) (hv : v = val a) (hq : QAt w' R B (.ok r)) (ho : Only (fun k => k = R) w w') : QOut rd z val R B (.ok b) w (.returned v) w' := ⟨by rw [hv, rdV_ok h], by rw [rdS_ok h]; exact hq, ho⟩
set_option maxHeartbeats 2000000 in
theorem q_wide (R B k : Nat) (s : RS) (w : World) (h : QAt w R B s) (k1 : 1 ≤ k) (k8 : k ≤ 8) : Calls Try.prog 42 #[.pointer (some ⟨R, 0, none⟩), .int .i64 (k : Int)] w (QOut (rdFix k) 0 (Value.int .u64) R B s w) := by
  have HQ := hide h
  obtain ⟨A, c, l, e0, hb, hc, hm, hr, hBR, ⟨rfl, rfl⟩ | ⟨rfl, he0⟩⟩ := h
  rotate_left
  · obtain ⟨f0, f1, z0, z1⟩ := qcells hb
    have g1 : (e0 != 0) = true := by simp [he0]
    clear hb hr he0
    go_enter Try.func42, Try.ntmps42
    go_wp2_with fail
    go_ret
    exact qOut_bad (unhide HQ) rfl
  clear HQ
  obtain ⟨f0, f1, z0, z1⟩ := qcells hb
  have HT := hide (refTakeFixed_any l A c B (k : Int) w hr hc (by omega) (by omega) (by omega))
  have HB := hide hb
  have HR := hide hr
  clear hb hr
  by_cases hl : l.length < k
  · have HE : Hid (rdFix k l = .error 2) := if_pos hl
    rw [Num.takeFixed_short k1 k8 hl] at HT
    have HN := hide (stop_new R 2 w _ (unhide HB))
    clear hl
    go_enter Try.func42, Try.ntmps42
    go_wp2_with (first
      | (go_at_call 63; refine (unhide HT).mono ?_; rintro _ w1 ⟨rfl, rfl⟩)
      | (go_at_call 43; refine (unhide HN).mono ?_; rintro _ w1 ⟨rfl, rfl⟩))
    go_ret
    exact qOut_err (unhide HE) rfl (QAt.fault (unhide HB) hc hm (unhide HR) hBR (by omega)) (only_q 1 _)
  · have HE : Hid (rdFix k l = .ok ((Num.tf 0 (l.take k) : Nat), l.drop k)) := if_neg hl
    rw [Num.takeFixed_ok k1 k8 (by omega)] at HT
    have s1 : (0 : Int) ≤ (k : Int) := by omega
    have s2 : (k : Int) ≤ (l.length : Int) := by omega
    have s3 : (k : Int) ≤ (c : Int) := by omega
    obtain ⟨N, hN⟩ : ∃ N : Nat, Num.tf 0 (l.take k) = N := ⟨_, rfl⟩
    rw [hN] at HT HE
    clear hN
    have HK : Hid (k ≤ l.length) := hide (by omega)
    by_cases hck : c = k
    · obtain rfl : c = k := hck
      go_enter Try.func42, Try.ntmps42
      go_wp2_with (first
        | (go_at_call 63; refine (unhide HT).mono ?_; rintro _ w1 ⟨rfl, rfl⟩))
      go_ret
      exact qOut_ok (unhide HE) rfl (QAt.movedE (unhide HB) hc A hBR) (only_q 0 _)
    · have hck2 : k < c := by omega
      clear hck
      go_enter Try.func42, Try.ntmps42
      go_wp2_with (first
        | (go_at_call 63; refine (unhide HT).mono ?_; rintro _ w1 ⟨rfl, rfl⟩))
      go_ret
      exact qOut_ok (unhide HE) rfl (QAt.movedA (unhide HB) hc hm (unhide HR) hBR (unhide HK) hck2) (only_q 0 _)
set_option maxHeartbeats 2000000 in
theorem q_short (R B : Nat) (s : RS) (w : World) (h : QAt w R B s) : Calls Try.prog 71 #[.pointer (some ⟨R, 0, none⟩)] w (QOut rdUv 0 (Value.int .u64) R B s w) := by
  have HQ := hide h
  obtain ⟨A, c, l, e0, hb, hc, hm, hr, hBR, ⟨rfl, rfl⟩ | ⟨rfl, he0⟩⟩ := h
  rotate_left
  · obtain ⟨f0, f1, z0, z1⟩ := qcells hb
    have g1 : (e0 != 0) = true := by simp [he0]
    clear hb hr he0
    go_enter Try.func71, Try.ntmps71
    go_wp2_with fail
    go_ret
    exact qOut_bad (unhide HQ) rfl
  clear HQ
  obtain ⟨f0, f1, z0, z1⟩ := qcells hb
  have HT := hide (refTakeUvar_any l A c B w hr (by omega))
  have HB := hide hb
  have HR := hide hr
  clear hb hr
  by_cases hl : (Num.take l).2.2 = 0
  · have HE : Hid (rdUv l = .ok (((Num.take l).1 : Int), l.drop (Num.take l).2.1)) := if_pos hl
    rw [hl] at HT
    obtain ⟨N, k, e, ht⟩ : ∃ N k e, Num.take l = (N, k, e) := ⟨_, _, _, rfl⟩
    rw [ht] at HT HE hl
    simp only at HT HE hl
    subst hl
    have hk := (Num.take_only ht).2.2.1
    have s1 : (0 : Int) ≤ (k : Int) := by omega
    have s2 : (k : Int) ≤ (l.length : Int) := by omega
    have s3 : (k : Int) ≤ (c : Int) := by omega
    have HK : Hid (k ≤ l.length) := hide hk
    clear ht hk
    by_cases hck : c = k
    · obtain rfl : c = k := hck
      go_enter Try.func71, Try.ntmps71
      go_wp2_with (first
        | (go_at_call 73; refine (unhide HT).mono ?_; rintro _ w1 ⟨rfl, rfl⟩))
      go_ret
      exact qOut_ok (unhide HE) rfl (QAt.movedE (unhide HB) hc A hBR) (only_q 0 _)
    · have hck2 : k < c := by omega
      clear hck
      go_enter Try.func71, Try.ntmps71
      go_wp2_with (first
        | (go_at_call 73; refine (unhide HT).mono ?_; rintro _ w1 ⟨rfl, rfl⟩))
      go_ret
      exact qOut_ok (unhide HE) rfl (QAt.movedA (unhide HB) hc hm (unhide HR) hBR (unhide HK) hck2) (only_q 0 _)
  · have HE : Hid (rdUv l = .error (Num.take l).2.2) := if_neg hl
    have HN := hide (stop_new R (Num.take l).2.2 w _ (unhide HB))
    obtain ⟨er, her⟩ : ∃ er, (Num.take l).2.2 = er := ⟨_, rfl⟩
    rw [her] at HT HE HN hl
    have g1 : (er != 0) = true := by simp [hl]
    have HL := hide hl
    clear her hl
    go_enter Try.func71, Try.ntmps71
    go_wp2_with (first
      | (go_at_call 73; refine (unhide HT).mono ?_; rintro _ w1 ⟨rfl, rfl⟩)
      | (go_at_call 43; refine (unhide HN).mono ?_; rintro _ w1 ⟨rfl, rfl⟩))
    go_ret
    exact qOut_err (unhide HE) rfl (QAt.fault (unhide HB) hc hm (unhide HR) hBR (unhide HL)) (only_q 1 _)
set_option maxHeartbeats 2000000 in
theorem q_most (R B : Nat) (s : RS) (n l er : Int) (w : World) (h : QAt w R B s) (h0 : 0 ≤ n) (h1 : n < 18446744073709551616) (l0 : 0 ≤ l) (l1 : l ≤ 1073741824) (he : er ≠ 0) : Calls Try.prog 66 #[.pointer (some ⟨R, 0, none⟩), .int .u64 n, .int .u64 l, .int .i64 er] w fun e w' => e = .returned (.int .i64 (mostV n l s)) ∧ QAt w' R B (mostS n l er s) ∧ Only (fun k => k = R) w w' := by
  have HQ := hide h
  have HE := hide he
  clear he
  obtain ⟨A, c, b, e0, hb, hc, hm, hr, hBR, ⟨rfl, rfl⟩ | ⟨rfl, he0⟩⟩ := h
  rotate_left
  · obtain ⟨f0, f1, z0, z1⟩ := qcells hb
    have g1 : (e0 != 0) = true := by simp [he0]
    clear hb hr he0
    go_enter Try.func66, Try.ntmps66
    go_wp2_with fail
    go_ret
    exact ⟨rfl, unhide HQ, Only.refl _ _⟩
  obtain ⟨f0, f1, z0, z1⟩ := qcells hb
  have HB := hide hb
  have HR := hide hr
  clear hb hr
  by_cases hl : l < n
  · have HN := hide (stop_new R er w _ (unhide HB))
    have HV : Hid (mostV n l (.ok b) = 0 ∧ mostS n l er (.ok b) = .error er) := ⟨if_pos hl, if_pos hl⟩
    go_enter Try.func66, Try.ntmps66
    go_wp2_with (go_at_call 43; refine (unhide HN).mono ?_; rintro _ w1 ⟨rfl, rfl⟩)
    go_ret
    rw [(unhide HV).1, (unhide HV).2]
    exact ⟨rfl, QAt.fault (unhide HB) hc hm (unhide HR) hBR (unhide HE), only_q 1 _⟩
  · have HV : Hid (mostV n l (.ok b) = n ∧ mostS n l er (.ok b) = .ok b) := ⟨if_neg hl, if_neg hl⟩
    have e2 : IntKind.i64.wrap n = n := by simp [IntKind.wrap, IntKind.signed, IntKind.bits]; omega
    go_enter Try.func66, Try.ntmps66
    go_wp2_with fail
    go_ret
    rw [(unhide HV).1, (unhide HV).2]
    exact ⟨rfl, unhide HQ, Only.refl _ _⟩
set_option maxHeartbeats 2000000 in
theorem q_bytes (R B k : Nat) (s : RS) (w : World) (h : QAt w R B s) (hk0 : k ≤ 1000000) : Calls Try.prog 72 #[.pointer (some ⟨R, 0, none⟩), .int .i64 (k : Int)] w (QOut (rdRaw k) ByteArray.empty Value.string R B s w) := by
  have HQ := hide h
  obtain ⟨A, c, l, e0, hb, hc, hm, hr, hBR, ⟨rfl, rfl⟩ | ⟨rfl, he0⟩⟩ := h
  rotate_left
  · obtain ⟨f0, f1, z0, z1⟩ := qcells hb
    have g1 : (e0 != 0) = true := by simp [he0]
    clear hb hr he0
    go_enter Try.func72, Try.ntmps72
    go_wp2_with fail
    go_ret
    exact qOut_bad (unhide HQ) rfl
  clear HQ
  obtain ⟨f0, f1, z0, z1⟩ := qcells hb
  have HB := hide hb
  have HR := hide hr
  by_cases hl : l.length < k
  · have HE : Hid (rdRaw k l = .error 2) := if_pos hl
    have HN := hide (stop_new R 2 w _ (unhide HB))
    have g1 : (l.length : Int) < (k : Int) := by omega
    clear hl hb hr
    go_enter Try.func72, Try.ntmps72
    go_wp2_with (go_at_call 43; refine (unhide HN).mono ?_; rintro _ w1 ⟨rfl, rfl⟩)
    go_ret
    exact qOut_err (unhide HE) rfl (QAt.fault (unhide HB) hc hm (unhide HR) hBR (by omega)) (only_q 1 _)
  · have HE : Hid (rdRaw k l = .ok (⟨(l.take k).toArray⟩, l.drop k)) := if_neg hl
    have g1 : ¬ (l.length : Int) < (k : Int) := by omega
    have hlen : (l.take k).length = k := by simp; omega
    have hst := run_str (P := Try.prog) (src := 31) (dst := 9) (e := 5) c (hr.take k) Try.underlying31 Try.underlying5 Try.underlying9
    rw [hlen] at hst
    have s1 : (0 : Int) ≤ (k : Int) := by omega
    have s2 : (k : Int) ≤ (l.length : Int) := by omega
    have s3 : (k : Int) ≤ (c : Int) := by omega
    have HK : Hid (k ≤ l.length) := hide (by omega)
    obtain ⟨S, hS⟩ : ∃ S : ByteArray, (⟨(l.take k).toArray⟩ : ByteArray) = S := ⟨_, rfl⟩
    rw [hS] at hst HE
    clear hlen hl hb hr hS
    by_cases hck : c = k
    · obtain rfl : c = k := hck
      go_enter Try.func72, Try.ntmps72
      go_wp2_with fail
      go_ret
      exact qOut_ok (unhide HE) rfl (QAt.movedE (unhide HB) hc A hBR) (only_q 0 _)
    · have hck2 : k < c := by omega
      clear hck
      go_enter Try.func72, Try.ntmps72
      go_wp2_with fail
      go_ret
      exact qOut_ok (unhide HE) rfl (QAt.movedA (unhide HB) hc hm (unhide HR) hBR (unhide HK) hck2) (only_q 0 _)
set_option maxHeartbeats 2000000 in
theorem q_number (R B k : Nat) (v : Int) (s : RS) (w : World) (h : QAt w R B s) (k1 : 1 ≤ k) (k8 : k ≤ 8) : Calls Try.prog 64 #[.pointer (some ⟨R, 0, none⟩), .int .i64 v, .int .i64 (k : Int)] w (QOut (numC v k).rd 0 (Value.int .u64) R B s w) := by
  have HW : Hid (Calls Try.prog 42 #[.pointer (some ⟨R, 0, none⟩), .int .i64 (k : Int)] w (QOut (rdFix k) 0 (Value.int .u64) R B s w)) := hide (q_wide R B k s w h k1 k8)
  have HS := hide (q_short R B s w h)
  clear h
  by_cases hv : v = 1
  · have HN : Hid ((numC v k).rd = rdFix k) := by unfold numC; rw [if_pos hv]; rfl
    subst hv
    go_enter Try.func64, Try.ntmps64
    go_wp2_with (go_at_call 42; refine (unhide HW).mono ?_; rintro _ w1 ⟨rfl, h1⟩; have H1 := hide h1; clear h1)
    go_ret
    rw [unhide HN]
    exact ⟨rfl, unhide H1⟩
  · have HN : Hid ((numC v k).rd = rdUv) := by unfold numC; rw [if_neg hv]; rfl
    have g1 : (v == 1) = false := by simp [hv]
    clear hv
    go_enter Try.func64, Try.ntmps64
    go_wp2_with (go_at_call 71; refine (unhide HS).mono ?_; rintro _ w1 ⟨rfl, h1⟩; have H1 := hide h1; clear h1)
    go_ret
    rw [unhide HN]
    exact ⟨rfl, unhide H1⟩
/-- a number that is not above a limit -/
theorem q_least (R B k : Nat) (v : Int) (s : RS) (l er : Int) (w : World) (h : QAt w R B (rdS (numC v k).rd s)) (k8 : k ≤ 8) (l0 : 0 ≤ l) (l1 : l ≤ 1073741824) (he : er ≠ 0) :
    Calls Try.prog 66 #[.pointer (some ⟨R, 0, none⟩), .int .u64 (rdV 0 (numC v k).rd s), .int .u64 l, .int .i64 er] w fun e w' => e = .returned (.int .i64 (rdV 0 (most (numC v k) l er).rd s)) ∧ QAt w' R B (rdS (most (numC v k) l er).rd s) ∧ Only (fun k => k = R) w w' := by
  have h1 := most_step (num_law v k) (num_nn v k) l er s
  rw [← h1.1, ← h1.2]
  exact q_most R B _ _ l er w h (rdV_range (num_law v k) (P := fun n => 0 ≤ n) (by omega) (num_nn v k) s) (rdV_range (num_law v k) (P := fun n => n < 18446744073709551616) (by omega) (num_u64 v k k8) s) l0 l1 he
set_option maxHeartbeats 2000000 in
theorem q_text (R B : Nat) (v : Int) (l : Int) (s : RS) (w : World) (h : QAt w R B s) (l0 : 0 ≤ l) (l1 : l ≤ 1000) : Calls Try.prog 65 #[.pointer (some ⟨R, 0, none⟩), .int .i64 v, .int .i64 l] w (QOut (textC (numC v 1) l).rd ByteArray.empty Value.string R B s w) := by
  have HW : Hid (Calls Try.prog 42 #[.pointer (some ⟨R, 0, none⟩), .int .i64 1] w (QOut (rdFix 1) 0 (Value.int .u64) R B s w)) := hide (q_wide R B 1 s w h (by omega) (by omega))
  have HS := hide (q_short R B s w h)
  have HM := hide (fun u hu => q_least R B 1 v s l 6 u hu (by omega) l0 (by omega) (by omega))
  have e1 : IntKind.u64.wrap l = l := by simp [IntKind.wrap, IntKind.signed, IntKind.bits]; omega
  have hn0 := rdV_range (most_law (num_law v 1) l 6) (P := fun n => 0 ≤ n ∧ n ≤ l) ⟨by omega, l0⟩ (fun n h => most_ok h) s
  obtain ⟨k, hk⟩ : ∃ k : Nat, rdV 0 (most (numC v 1) l 6).rd s = k := ⟨_, (Int.toNat_of_nonneg hn0.1).symm⟩
  have hk1 : k ≤ 1000 := by rw [hk] at hn0; omega
  have HT := hide (text_step (num_law v 1) (num_nn v 1) l s)
  have HBY := hide (fun u hu => q_bytes R B k (rdS (most (numC v 1) l 6).rd s) u hu (by omega))
  rw [hk] at HM HT
  simp only [Int.toNat_natCast] at HT
  clear h hk hn0
  by_cases hv : v = 1
  · have HN : Hid (rdFix 1 = (numC v 1).rd) := by unfold numC; rw [if_pos hv]; rfl
    rw [unhide HN] at HW
    subst hv
    go_enter Try.func65, Try.ntmps65
    go_wp2_with (first
      | (go_at_call 42; refine (unhide HW).mono ?_; rintro _ w1 ⟨rfl, hq, ho⟩; have HQ := hide hq; have HO := hide ho; clear hq ho)
      | (go_at_call 66; refine (unhide HM _ (unhide HQ)).mono ?_; rintro _ w2 ⟨rfl, hq, ho⟩; have HQ2 := hide hq; have HO2 := hide ((unhide HO).trans ho); clear hq ho)
      | (go_at_call 72; refine (unhide HBY _ (unhide HQ2)).mono ?_; rintro _ w3 ⟨rfl, hq, ho⟩; have HQ3 := hide hq; have HO3 := hide ((unhide HO2).trans ho); clear hq ho))
    go_ret
    refine ⟨by rw [(unhide HT).1]; rfl, ?_, unhide HO3⟩
    rw [← (unhide HT).2]
    exact unhide HQ3
  · have HN : Hid (rdUv = (numC v 1).rd) := by unfold numC; rw [if_neg hv]; rfl
    rw [unhide HN] at HS
    have g1 : (v == 1) = false := by simp [hv]
    clear hv
    go_enter Try.func65, Try.ntmps65
    go_wp2_with (first
      | (go_at_call 71; refine (unhide HS).mono ?_; rintro _ w1 ⟨rfl, hq, ho⟩; have HQ := hide hq; have HO := hide ho; clear hq ho)
      | (go_at_call 66; refine (unhide HM _ (unhide HQ)).mono ?_; rintro _ w2 ⟨rfl, hq, ho⟩; have HQ2 := hide hq; have HO2 := hide ((unhide HO).trans ho); clear hq ho)
      | (go_at_call 72; refine (unhide HBY _ (unhide HQ2)).mono ?_; rintro _ w3 ⟨rfl, hq, ho⟩; have HQ3 := hide hq; have HO3 := hide ((unhide HO2).trans ho); clear hq ho))
    go_ret
    refine ⟨by rw [(unhide HT).1]; rfl, ?_, unhide HO3⟩
    rw [← (unhide HT).2]
    exact unhide HQ3
end Go.Proofs.Ytkgacehnpdijaaa
namespace Go.Proofs.Ytkgacehnpdijaaa
set_option linter.unusedVariables false
set_option linter.unusedSimpArgs false
open Go.RowKit Wire

/-- what reading a part comes to -/
def PartOut (v : Int) (i : Nat) (m : Ms) (A0 : Option Addr) (c0 : Nat) (vA0 : Option Addr) (vc0 : Nat) (R B mm base : Nat) (b : List UInt8) (w : World) (e : Ending) (w' : World) : Prop :=
  (∃ er t cs, partStep v i m b = .error er ∧ e = .returned (.bool t) ∧ QAt w' R B (.error er) ∧ Blk w' mm 28 cs ∧ cs.size = 14 ∧ Only (fun k => k = R ∨ k = mm) w w') ∨
  ∃ m' t q A c vA vc, partStep v i m b = .ok ((m', t), q) ∧ e = .returned (.bool t) ∧ QAt w' R B (.ok q) ∧ Blk w' mm 28 (mcells m' A c vA vc) ∧ MOwn w' base m' A c vA vc ∧ Only (fun k => k = R ∨ k = mm) w w' ∧ (i ≠ 5 → A = A0 ∧ c = c0) ∧ (i ≠ 6 → vA = vA0 ∧ vc = vc0)
/-- a part that is one cell of the message -/
theorem part_one {α : Type} {v : Int} {i : Nat} {m : Ms} {R B mm base : Nat} {b : List UInt8} {w u : World} {c : Cd α} {z : α} {f : α → Ms} {nz : α → Bool} {val : α → Value} {j : Nat} {t : Bool} {A : Option Addr} {n : Nat} {vA : Option Addr} {vc : Nat}
    (hp : partStep v i m b = mapE (fun x => (f x, nz x)) (c.rd b)) (ht : t = nz (rdV z c.rd (.ok b))) (hq : QAt u R B (rdS c.rd (.ok b))) (ho : Only (fun k => k = R) w u) (hm : Blk u mm 28 (mcells m A n vA vc)) (hw : MOwn u base m A n vA vc) (hBm : B ≤ mm) (hne : mm ≠ R) (hb : mm < base)
    (hf : ∀ x, (mcells m A n vA vc).setIfInBounds j (val x) = mcells (f x) A n vA vc) (hfv : ∀ x, (f x).vers = m.vers) (hfc : ∀ x, (f x).vec = m.vec) :
    PartOut v i m A n vA vc R B mm base b w (.returned (.bool t)) (u.setCell ⟨mm, j, none⟩ (val (rdV z c.rd (.ok b)))) := by
  have hos := (Only.refl (fun k => k = mm) u).setCell (p := ⟨mm, j, none⟩) rfl (val (rdV z c.rd (.ok b)))
  have hO : Only (fun k => k = R ∨ k = mm) w (u.setCell ⟨mm, j, none⟩ (val (rdV z c.rd (.ok b)))) := (only_R ho).trans (hos.mono fun k _ hk => .inr hk)
  have hq2 := hq.only hos fun k hk => by subst hk; exact ⟨hBm, hne⟩
  have hm2 := hm.set_ j (val (rdV z c.rd (.ok b)))
  subst ht
  rcases h : c.rd b with e | ⟨x, q⟩
  · rw [rdS_err h] at hq2
    exact .inl ⟨e, _, _, by rw [hp, h]; rfl, rfl, hq2, hm2, by rw [Array.size_setIfInBounds]; rfl, hO⟩
  · rw [rdS_ok h] at hq2
    rw [rdV_ok h] at hm2 hq2 hO hos ⊢
    rw [hf] at hm2
    refine .inr ⟨f x, nz x, q, A, n, vA, vc, by rw [hp, h]; rfl, rfl, hq2, hm2, ⟨?_, ?_⟩, hO, fun _ => ⟨rfl, rfl⟩, fun _ => ⟨rfl, rfl⟩⟩
    · rw [hfv]; exact own_only hw.vers hos fun k hk e => by have := (hw.vers.lt k hk).1; omega
    · rw [hfc]; exact own_only hw.vec hos fun k hk e => by have := (hw.vec.lt k hk).1; omega
set_option maxHeartbeats 4000000 in
set_option maxRecDepth 20000 in
theorem part_0 (v : Int) (m : Ms) (A : Option Addr) (c : Nat) (vA : Option Addr) (vc : Nat) (R B mm base : Nat) (b : List UInt8) (w : World) (hq : QAt w R B (.ok b)) (hm : Blk w mm 28 (mcells m A c vA vc)) (hw : MOwn w base m A c vA vc) (hne : mm ≠ R) (hBm : B ≤ mm) (hb : mm < base) (hbw : base ≤ w.heap.size) (hRb : R < base) :
    Calls Try.prog 44 #[.pointer (some ⟨R, 0, none⟩), .int .i64 v, .int .i64 0, .pointer (some ⟨mm, 0, none⟩)] w (PartOut v 0 m A c vA vc R B mm base b w) := by
  have HN : Hid (Calls Try.prog 64 #[.pointer (some ⟨R, 0, none⟩), .int .i64 v, .int .i64 8] w (QOut (numC v 8).rd 0 (Value.int .u64) R B (.ok b) w)) := hide (q_number R B 8 v (.ok b) w hq (by omega) (by omega))
  have HM := hide hm
  have HW := hide hw
  clear hq hm hw
  go_enter Try.func44, Try.ntmps44
  go_wp2_with (go_at_call 64; (with_reducible refine Calls.mono (unhide HN) ?_); go_must ((
     rintro _ u1 ⟨rfl, hq, ho⟩
     have hk := (unhide HM).only ho (fun e => hne e)
     have HM1 := hide hk
     have HW1 := hide (show MOwn u1 base m A c vA vc from ⟨own_only (unhide HW).vers ho (fun k hk e => by have := ((unhide HW).vers.lt k hk).1; omega), own_only (unhide HW).vec ho (fun k hk e => by have := ((unhide HW).vec.lt k hk).1; omega)⟩)
     have f1 := hk.cell 1
     have z1 := hk.frozen 1
     have hml := hk.lt
     have HQ1 := hide hq
     have HO1 := hide ho
     clear hq ho hk)))
  go_ret
  exact part_one (c := numC v 8) (z := 0) (f := fun x => { m with id := x }) (nz := nzI) (val := Value.int .u64) rfl rfl (unhide HQ1) (unhide HO1) (unhide HM1) (unhide HW1) hBm hne hb (fun _ => rfl) (fun _ => rfl) (fun _ => rfl)
set_option maxHeartbeats 4000000 in
set_option maxRecDepth 20000 in
theorem part_1 (v : Int) (m : Ms) (A : Option Addr) (c : Nat) (vA : Option Addr) (vc : Nat) (R B mm base : Nat) (b : List UInt8) (w : World) (hq : QAt w R B (.ok b)) (hm : Blk w mm 28 (mcells m A c vA vc)) (hw : MOwn w base m A c vA vc) (hne : mm ≠ R) (hBm : B ≤ mm) (hb : mm < base) (hbw : base ≤ w.heap.size) (hRb : R < base) :
    Calls Try.prog 44 #[.pointer (some ⟨R, 0, none⟩), .int .i64 v, .int .i64 1, .pointer (some ⟨mm, 0, none⟩)] w (PartOut v 1 m A c vA vc R B mm base b w) := by
  have HN : Hid (Calls Try.prog 64 #[.pointer (some ⟨R, 0, none⟩), .int .i64 v, .int .i64 8] w (QOut (numC v 8).rd 0 (Value.int .u64) R B (.ok b) w)) := hide (q_number R B 8 v (.ok b) w hq (by omega) (by omega))
  have HM := hide hm
  have HW := hide hw
  clear hq hm hw
  go_enter Try.func44, Try.ntmps44
  go_wp2_with (go_at_call 64; (with_reducible refine Calls.mono (unhide HN) ?_); go_must ((
     rintro _ u1 ⟨rfl, hq, ho⟩
     have hk := (unhide HM).only ho (fun e => hne e)
     have HM1 := hide hk
     have HW1 := hide (show MOwn u1 base m A c vA vc from ⟨own_only (unhide HW).vers ho (fun k hk e => by have := ((unhide HW).vers.lt k hk).1; omega), own_only (unhide HW).vec ho (fun k hk e => by have := ((unhide HW).vec.lt k hk).1; omega)⟩)
     have f1 := hk.cell 2
     have z1 := hk.frozen 2
     have hml := hk.lt
     have HQ1 := hide hq
     have HO1 := hide ho
     clear hq ho hk)))
  go_ret
  exact part_one (c := numC v 8) (z := 0) (f := fun x => { m with n := x }) (nz := nzI) (val := Value.int .u64) rfl rfl (unhide HQ1) (unhide HO1) (unhide HM1) (unhide HW1) hBm hne hb (fun _ => rfl) (fun _ => rfl) (fun _ => rfl)
set_option maxHeartbeats 4000000 in
set_option maxRecDepth 20000 in
theorem part_2 (v : Int) (m : Ms) (A : Option Addr) (c : Nat) (vA : Option Addr) (vc : Nat) (R B mm base : Nat) (b : List UInt8) (w : World) (hq : QAt w R B (.ok b)) (hm : Blk w mm 28 (mcells m A c vA vc)) (hw : MOwn w base m A c vA vc) (hne : mm ≠ R) (hBm : B ≤ mm) (hb : mm < base) (hbw : base ≤ w.heap.size) (hRb : R < base) :
    Calls Try.prog 44 #[.pointer (some ⟨R, 0, none⟩), .int .i64 v, .int .i64 2, .pointer (some ⟨mm, 0, none⟩)] w (PartOut v 2 m A c vA vc R B mm base b w) := by
  have HN : Hid (Calls Try.prog 64 #[.pointer (some ⟨R, 0, none⟩), .int .i64 v, .int .i64 8] w (QOut (numC v 8).rd 0 (Value.int .u64) R B (.ok b) w)) := hide (q_number R B 8 v (.ok b) w hq (by omega) (by omega))
  have HM := hide hm
  have HW := hide hw
  clear hq hm hw
  go_enter Try.func44, Try.ntmps44
  go_wp2_with (go_at_call 64; (with_reducible refine Calls.mono (unhide HN) ?_); go_must ((
     rintro _ u1 ⟨rfl, hq, ho⟩
     have hk := (unhide HM).only ho (fun e => hne e)
     have HM1 := hide hk
     have HW1 := hide (show MOwn u1 base m A c vA vc from ⟨own_only (unhide HW).vers ho (fun k hk e => by have := ((unhide HW).vers.lt k hk).1; omega), own_only (unhide HW).vec ho (fun k hk e => by have := ((unhide HW).vec.lt k hk).1; omega)⟩)
     have f1 := hk.cell 3
     have z1 := hk.frozen 3
     have hml := hk.lt
     have HQ1 := hide hq
     have HO1 := hide ho
     clear hq ho hk)))
  go_ret
  exact part_one (c := numC v 8) (z := 0) (f := fun x => { m with ts := x }) (nz := nzI) (val := Value.int .u64) rfl rfl (unhide HQ1) (unhide HO1) (unhide HM1) (unhide HW1) hBm hne hb (fun _ => rfl) (fun _ => rfl) (fun _ => rfl)
set_option maxHeartbeats 4000000 in
set_option maxRecDepth 20000 in
theorem part_3 (v : Int) (m : Ms) (A : Option Addr) (c : Nat) (vA : Option Addr) (vc : Nat) (R B mm base : Nat) (b : List UInt8) (w : World) (hq : QAt w R B (.ok b)) (hm : Blk w mm 28 (mcells m A c vA vc)) (hw : MOwn w base m A c vA vc) (hne : mm ≠ R) (hBm : B ≤ mm) (hb : mm < base) (hbw : base ≤ w.heap.size) (hRb : R < base) :
    Calls Try.prog 44 #[.pointer (some ⟨R, 0, none⟩), .int .i64 v, .int .i64 3, .pointer (some ⟨mm, 0, none⟩)] w (PartOut v 3 m A c vA vc R B mm base b w) := by
  have HN : Hid (Calls Try.prog 65 #[.pointer (some ⟨R, 0, none⟩), .int .i64 v, .int .i64 16] w (QOut (textC (numC v 1) 16).rd ByteArray.empty Value.string R B (.ok b) w)) := hide (q_text R B v 16 (.ok b) w hq (by omega) (by omega))
  have HM := hide hm
  have HW := hide hw
  clear hq hm hw
  go_enter Try.func44, Try.ntmps44
  go_wp2_with (go_at_call 65; (with_reducible refine Calls.mono (unhide HN) ?_); go_must ((
     rintro _ u1 ⟨rfl, hq, ho⟩
     have hk := (unhide HM).only ho (fun e => hne e)
     have HM1 := hide hk
     have HW1 := hide (show MOwn u1 base m A c vA vc from ⟨own_only (unhide HW).vers ho (fun k hk e => by have := ((unhide HW).vers.lt k hk).1; omega), own_only (unhide HW).vec ho (fun k hk e => by have := ((unhide HW).vec.lt k hk).1; omega)⟩)
     have f1 := hk.cell 4
     have z1 := hk.frozen 4
     have hml := hk.lt
     have HQ1 := hide hq
     have HO1 := hide ho
     clear hq ho hk)))
  go_ret
  exact part_one (c := textC (numC v 1) 16) (z := ByteArray.empty) (f := fun x => { m with lo := x }) (nz := nzS) (val := Value.string) rfl (strB _) (unhide HQ1) (unhide HO1) (unhide HM1) (unhide HW1) hBm hne hb (fun _ => rfl) (fun _ => rfl) (fun _ => rfl)
set_option maxHeartbeats 4000000 in
set_option maxRecDepth 20000 in
theorem part_4 (v : Int) (m : Ms) (A : Option Addr) (c : Nat) (vA : Option Addr) (vc : Nat) (R B mm base : Nat) (b : List UInt8) (w : World) (hq : QAt w R B (.ok b)) (hm : Blk w mm 28 (mcells m A c vA vc)) (hw : MOwn w base m A c vA vc) (hne : mm ≠ R) (hBm : B ≤ mm) (hb : mm < base) (hbw : base ≤ w.heap.size) (hRb : R < base) :
    Calls Try.prog 44 #[.pointer (some ⟨R, 0, none⟩), .int .i64 v, .int .i64 4, .pointer (some ⟨mm, 0, none⟩)] w (PartOut v 4 m A c vA vc R B mm base b w) := by
  have HN : Hid (Calls Try.prog 65 #[.pointer (some ⟨R, 0, none⟩), .int .i64 v, .int .i64 16] w (QOut (textC (numC v 1) 16).rd ByteArray.empty Value.string R B (.ok b) w)) := hide (q_text R B v 16 (.ok b) w hq (by omega) (by omega))
  have HM := hide hm
  have HW := hide hw
  clear hq hm hw
  go_enter Try.func44, Try.ntmps44
  go_wp2_with (go_at_call 65; (with_reducible refine Calls.mono (unhide HN) ?_); go_must ((
     rintro _ u1 ⟨rfl, hq, ho⟩
     have hk := (unhide HM).only ho (fun e => hne e)
     have HM1 := hide hk
     have HW1 := hide (show MOwn u1 base m A c vA vc from ⟨own_only (unhide HW).vers ho (fun k hk e => by have := ((unhide HW).vers.lt k hk).1; omega), own_only (unhide HW).vec ho (fun k hk e => by have := ((unhide HW).vec.lt k hk).1; omega)⟩)
     have f1 := hk.cell 5
     have z1 := hk.frozen 5
     have hml := hk.lt
     have HQ1 := hide hq
     have HO1 := hide ho
     clear hq ho hk)))
  go_ret
  exact part_one (c := textC (numC v 1) 16) (z := ByteArray.empty) (f := fun x => { m with hi := x }) (nz := nzS) (val := Value.string) rfl (strB _) (unhide HQ1) (unhide HO1) (unhide HM1) (unhide HW1) hBm hne hb (fun _ => rfl) (fun _ => rfl) (fun _ => rfl)
end Go.Proofs.Ytkgacehnpdijaaa
