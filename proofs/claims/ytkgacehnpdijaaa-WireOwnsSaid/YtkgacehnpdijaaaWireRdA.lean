/- A reader gives up: need, some, least. least, some. The walks of TakeFixed, num's and the document's. The program's reader: fixed, uvar, bytes, short, text, flag. Decode's deferred function. Reading step by step: what is left of a read. No program in sight. The reader's flag; what the message's block holds while it is read. What the reading of rows and numbers comes to; what a row's appending leaves alone. -/
import Derived.Test.YtkgacehnpdijaaaWireNums
import Derived.WalkLawsBesides
import Derived.Test.YtkgacehnpdijaaaWireNum
import Derived.Test.YtkgacehnpdijaaaNumFixMath
import Derived.Test.YtkgacehnpdijaaaWireGood
import Derived.Test.YtkgacehnpdijaaaOnly
import Derived.Test.YtkgacehnpdijaaaWireVerAt
import Derived.Recover
import Derived.Laws.Pointers
import Derived.Test.YtkgacehnpdijaaaWireBody
import Derived.Deep.MidRow
namespace Go.Proofs.Ytkgacehnpdijaaa
set_option linter.unusedVariables false
open Go.RowKit Wire

/-- the reader gives up with fault e -/
def gaveUp (e : Int) : Ending := .panicked [{ v := .iface 59 (.int .i64 e), recovered := false }]
theorem need_ok (r : Value) (w : World) : Calls Try.prog 38 #[r, .int .i64 0] w fun e w' => e = .returned (.tuple #[]) ∧ w = w' := by
  go_enter Try.func38, Try.ntmps38
  go_wp2_with fail
  refine bodyPost_end (results_none rfl _ _ _) rfl ?_
  exact ⟨rfl, rfl⟩
theorem need_bad (r : Value) (er : Int) (w : World) (he : er ≠ 0) : Calls Try.prog 38 #[r, .int .i64 er] w fun e w' => e = gaveUp er ∧ w = w' := by
  have f1 : (er != 0) = true := by simp [he]
  go_enter Try.func38, Try.ntmps38
  go_wp2_with fail
  exact ⟨rfl, rfl, rfl⟩
end Go.Proofs.Ytkgacehnpdijaaa
namespace Go.Proofs.Ytkgacehnpdijaaa
set_option linter.unusedVariables false
open Go.RowKit Wire

theorem some_ok (r : Value) (w : World) : Calls Try.prog 41 #[r, .bool true] w fun e w' => e = .returned (.tuple #[]) ∧ w = w' := by
  go_enter Try.func41, Try.ntmps41
  go_wp2_with fail
  refine bodyPost_end (results_none rfl _ _ _) rfl ?_
  exact ⟨rfl, rfl⟩
theorem some_bad (r : Value) (w : World) : Calls Try.prog 41 #[r, .bool false] w fun e w' => e = gaveUp 3 ∧ w = w' := by
  have HN := hide (fun r => need_bad r 3 w (by omega))
  go_enter Try.func41, Try.ntmps41
  go_wp2_with (go_at_call 38; refine (unhide HN _).mono ?_; rintro _ w1 ⟨rfl, rfl⟩; unfold gaveUp)
  exact ⟨rfl, rfl, rfl⟩
theorem least_ok (r : Value) (n most er : Int) (w : World) (h0 : 0 ≤ n) (h1 : n ≤ most) (h2 : most ≤ 1073741824) : Calls Try.prog 59 #[r, .int .u64 n, .int .i64 most, .int .i64 er] w fun e w' => e = .returned (.int .i64 n) ∧ w = w' := by
  have e1 : IntKind.u64.wrap most = most := by simp [IntKind.wrap, IntKind.signed, IntKind.bits]; omega
  have e2 : IntKind.i64.wrap n = n := by simp [IntKind.wrap, IntKind.signed, IntKind.bits]; omega
  have f1 : ¬ most < n := by omega
  go_enter Try.func59, Try.ntmps59
  go_wp2_with fail
  go_ret
  exact ⟨rfl, rfl⟩
theorem least_bad (r : Value) (n most er : Int) (w : World) (h0 : 0 ≤ most) (h1 : most < n) (h2 : most ≤ 1073741824) (he : er ≠ 0) : Calls Try.prog 59 #[r, .int .u64 n, .int .i64 most, .int .i64 er] w fun e w' => e = gaveUp er ∧ w = w' := by
  have HN := hide (fun r => need_bad r er w he)
  have e1 : IntKind.u64.wrap most = most := by simp [IntKind.wrap, IntKind.signed, IntKind.bits]; omega
  go_enter Try.func59, Try.ntmps59
  go_wp2_with (go_at_call 38; refine (unhide HN _).mono ?_; rintro _ w1 ⟨rfl, rfl⟩; unfold gaveUp)
  exact ⟨rfl, rfl, rfl⟩
end Go.Proofs.Ytkgacehnpdijaaa
namespace Go.Proofs.Ytkgacehnpdijaaa
set_option linter.unusedVariables false
open Go.RowKit

/-- the answer of TakeFixed -/
def Num.takeFixed (l : List UInt8) (width : Int) : Nat × Int := if width < 1 ∨ 8 < width then (0, 1) else if l.length < width.toNat then (0, 2) else (Num.tf 0 (l.take width.toNat), 0)
theorem Num.takeFixed_arg {l : List UInt8} {width : Int} (h : width < 1 ∨ 8 < width) : Num.takeFixed l width = (0, 1) := by rw [Num.takeFixed, if_pos h]
theorem Num.takeFixed_short {l : List UInt8} {w : Nat} (h1 : 1 ≤ w) (h8 : w ≤ 8) (h : l.length < w) : Num.takeFixed l (w : Int) = (0, 2) := by
  rw [Num.takeFixed, if_neg (by omega), Int.toNat_natCast, if_pos h]
theorem Num.takeFixed_ok {l : List UInt8} {w : Nat} (h1 : 1 ≤ w) (h8 : w ≤ 8) (h : w ≤ l.length) : Num.takeFixed l (w : Int) = (Num.tf 0 (l.take w), 0) := by
  rw [Num.takeFixed, if_neg (by omega), Int.toNat_natCast, if_neg (by omega)]
theorem Num.tf_step {l : List UInt8} {k : Nat} (hk : k < l.length) (h7 : k < 8) : Num.tf 0 (l.take (k + 1)) = Num.tf 0 (l.take k) * 256 + (l[k]).toNat ∧ Num.tf 0 (l.take k) < 72057594037927936 := by
  rw [List.take_succ_eq_append_getElem hk, Num.tf_snoc]
  refine ⟨rfl, ?_⟩
  have h1 := Num.tf_lt0 (l.take k)
  have h2 : 256 ^ (l.take k).length ≤ 256 ^ 7 := Nat.pow_le_pow_right (by omega) (by simp; omega)
  have h3 : (256 : Nat) ^ 7 = 72057594037927936 := by decide
  omega
theorem Num.shl8 {m : Nat} {c : UInt8} (hm : m < 72057594037927936) : bits BinOp.or IntKind.u64 ((m : Int) * 256) (c.toNat : Int) = ((m * 256 + c.toNat : Nat) : Int) := by
  have hc := c.toNat_lt
  have e1 : ((m : Int) * 256) = ((m * 256 : Nat) : Int) := by rw [Int.natCast_mul]; rfl
  rw [e1, u64_or_nat _ _ (by omega) (by omega)]
  congr 1
  exact nat_join 8 (m * 256) c.toNat (Nat.mul_mod_left _ _) (by omega)

set_option maxHeartbeats 1000000 in
set_option maxRecDepth 20000 in
theorem takeFixed_any (l : List UInt8) (A : Option Addr) (c B : Nat) (width : Int) (w : World) (hr : RdB w B A l) (hc : l.length ≤ c) (hl : c ≤ 9223372036854775807) (lo : -9223372036854775808 ≤ width) (hi8 : width ≤ 9223372036854775807) :
    Calls Try.prog 57 #[.slice A l.length c, .int .i64 width] w fun e w' => e = .returned (.tuple #[.int .u64 ((Num.takeFixed l width).1 : Int), .int .i64 (Num.takeFixed l width).2]) ∧ w = w' := by
  by_cases hw : width < 1 ∨ 8 < width
  · have HF := hide (Num.takeFixed_arg (l := l) hw)
    rw [unhide HF]
    rcases hw with hw | hw
    · go_enter Try.func57, Try.ntmps57
      go_wp2
      go_ret2
      exact ⟨rfl, rfl⟩
    · have hw1 : 1 ≤ width := by omega
      go_enter Try.func57, Try.ntmps57
      go_wp2
      go_ret2
      exact ⟨rfl, rfl⟩
  · obtain ⟨v, rfl⟩ := Int.eq_ofNat_of_zero_le (show 0 ≤ width by omega)
    have h1 : 1 ≤ v := by omega
    have h8 : v ≤ 8 := by omega
    clear hw lo hi8
    rcases Nat.lt_or_ge l.length v with hs | hs
    · have HF := hide (Num.takeFixed_short h1 h8 hs)
      rw [unhide HF]
      go_enter Try.func57, Try.ntmps57
      go_wp2
      go_ret2
      exact ⟨rfl, rfl⟩
    · have HF := hide (Num.takeFixed_ok h1 h8 hs)
      rw [unhide HF]
      go_enter Try.func57, Try.ntmps57
      go_wp2
      go_loop [6, 23] (fun t i => ∃ k : Nat, k ≤ v ∧ i = .int .i64 k ∧ t = .int .u64 (Num.tf 0 (l.take k) : Int)) (fun _ i => v - (intOf i).toNat)
      case atStart => exact ⟨0, Nat.zero_le _, rfl, by rw [List.take_zero]; rfl⟩
      case round =>
        obtain ⟨k, hk, rfl, rfl⟩ := hrel
        by_cases hlt : k < v
        · obtain ⟨ad, rfl, hcell⟩ := hr.at_ (k := k) (by omega)
          have hst := Num.tf_step (l := l) (k := k) (by omega) (by omega)
          have HS := hide hst.1
          have hb := hst.2
          clear hst
          generalize l[k] = c at hcell HS
          have hcl : c.toNat < 256 := c.toNat_lt
          generalize Num.tf 0 (l.take k) = m at hb HS ⊢
          go_wp2
          go_round
          case rel => exact ⟨k + 1, by omega, by go_num, by rw [unhide HS]; exact congrArg (Value.int .u64) (Num.shl8 hb)⟩
          case measure => simp [intOf]; omega
        · obtain rfl : k = v := by omega
          go_wp2
          go_ret2
          exact ⟨rfl, rfl⟩
    
set_option maxHeartbeats 1000000 in
set_option maxRecDepth 20000 in
theorem refTakeFixed_any (l : List UInt8) (A : Option Addr) (c B : Nat) (width : Int) (w : World) (hr : RdB w B A l) (hc : l.length ≤ c) (hl : c ≤ 9223372036854775807) (lo : -9223372036854775808 ≤ width) (hi8 : width ≤ 9223372036854775807) :
    Calls Try.prog 63 #[.slice A l.length c, .int .i64 width] w fun e w' => e = .returned (.tuple #[.int .u64 ((Num.takeFixed l width).1 : Int), .int .i64 (Num.takeFixed l width).2]) ∧ w = w' := by
  by_cases hw : width < 1 ∨ 8 < width
  · have HF := hide (Num.takeFixed_arg (l := l) hw)
    rw [unhide HF]
    rcases hw with hw | hw
    · go_enter Try.func63, Try.ntmps63
      go_wp2
      go_ret2
      exact ⟨rfl, rfl⟩
    · have hw1 : 1 ≤ width := by omega
      go_enter Try.func63, Try.ntmps63
      go_wp2
      go_ret2
      exact ⟨rfl, rfl⟩
  · obtain ⟨v, rfl⟩ := Int.eq_ofNat_of_zero_le (show 0 ≤ width by omega)
    have h1 : 1 ≤ v := by omega
    have h8 : v ≤ 8 := by omega
    clear hw lo hi8
    rcases Nat.lt_or_ge l.length v with hs | hs
    · have HF := hide (Num.takeFixed_short h1 h8 hs)
      rw [unhide HF]
      go_enter Try.func63, Try.ntmps63
      go_wp2
      go_ret2
      exact ⟨rfl, rfl⟩
    · have HF := hide (Num.takeFixed_ok h1 h8 hs)
      rw [unhide HF]
      go_enter Try.func63, Try.ntmps63
      go_wp2
      go_loop [6, 7] (fun t i => ∃ k : Nat, k ≤ v ∧ i = .int .i64 k ∧ t = .int .u64 (Num.tf 0 (l.take k) : Int)) (fun _ i => v - (intOf i).toNat)
      case atStart => exact ⟨0, Nat.zero_le _, rfl, by rw [List.take_zero]; rfl⟩
      case round =>
        obtain ⟨k, hk, rfl, rfl⟩ := hrel
        by_cases hlt : k < v
        · obtain ⟨ad, rfl, hcell⟩ := hr.at_ (k := k) (by omega)
          have hst := Num.tf_step (l := l) (k := k) (by omega) (by omega)
          have HS := hide hst.1
          have hb := hst.2
          clear hst
          generalize l[k] = c at hcell HS
          have hcl : c.toNat < 256 := c.toNat_lt
          generalize Num.tf 0 (l.take k) = m at hb HS ⊢
          go_wp2
          go_round
          case rel => exact ⟨k + 1, by omega, by go_num, by rw [unhide HS]; go_num⟩
          case measure => simp [intOf]; omega
        · obtain rfl : k = v := by omega
          go_wp2
          go_ret2
          exact ⟨rfl, rfl⟩
end Go.Proofs.Ytkgacehnpdijaaa
namespace Go.Proofs.Ytkgacehnpdijaaa
set_option linter.unusedVariables false
open Go.RowKit Wire

/-- the reader at R has the bytes b left -/
def RAt (w : World) (R B : Nat) (b : List UInt8) : Prop := ∃ A c, Blk w R 62 #[.slice A b.length c] ∧ b.length ≤ c ∧ (c ≤ 9223372036854775807 ∧ b.length ≤ 140737488351232) ∧ RdB w B A b ∧ B ≤ R
theorem RAt.lt {w : World} {R B : Nat} {b : List UInt8} (h : RAt w R B b) : R < w.heap.size := by
  obtain ⟨A, c, h1, _⟩ := h
  exact h1.lt
/-- what else is written doesn't matter to a reader -/
theorem RAt.only {w w' : World} {R B : Nat} {b : List UInt8} {S : Nat → Prop} (h : RAt w R B b) (ho : Only S w w') (hS : ∀ k, S k → B ≤ k ∧ k ≠ R) : RAt w' R B b := by
  obtain ⟨A, c, h1, h2, h3, h4, h5⟩ := h
  refine ⟨A, c, h1.only ho fun hs => (hS R hs).2 rfl, h2, h3, h4.keep fun p hp => ho.cell (Nat.lt_of_lt_of_le hp (Nat.le_trans h5 (Nat.le_of_lt h1.lt))) fun hs => ?_, h5⟩
  have := (hS _ hs).1
  omega
/-- what a read comes to -/
def RdOut {α : Type} (rd : Rd α) (val : α → Value) (R B : Nat) (b : List UInt8) (w : World) (e : Ending) (w' : World) : Prop :=
  (∃ er, rd b = .error er ∧ e = gaveUp er ∧ Only (fun k => k = R) w w') ∨ ∃ a more, rd b = .ok (a, more) ∧ e = .returned (val a) ∧ RAt w' R B more ∧ Only (fun k => k = R) w w'
theorem rdOut_err {α : Type} {rd : Rd α} {val : α → Value} {R B : Nat} {b : List UInt8} {w w' : World} {er : Int} (h : rd b = .error er) (ho : Only (fun k => k = R) w w') : RdOut rd val R B b w (gaveUp er) w' := .inl ⟨er, h, rfl, ho⟩
theorem rdOut_ok {α : Type} {rd : Rd α} {val : α → Value} {R B : Nat} {b more : List UInt8} {w w' : World} {a : α} {v : Value} (h : rd b = .ok (a, more)) (hv : v = val a) (hr : RAt w' R B more) (ho : Only (fun k => k = R) w w') : RdOut rd val R B b w (.returned v) w' := .inr ⟨a, more, h, by rw [hv], hr, ho⟩
/-- a read behind another -/
theorem RdOut.after {α : Type} {rd : Rd α} {val : α → Value} {R B : Nat} {b b' : List UInt8} {w0 w w' : World} {e : Ending} (h : RdOut rd val R B b w e w') (ho : Only (fun k => k = R) w0 w) (hb : rd b' = rd b) : RdOut rd val R B b' w0 e w' := by
  rcases h with ⟨er, h1, h2, h3⟩ | ⟨a, more, h1, h2, h3, h4⟩
  · exact .inl ⟨er, hb.trans h1, h2, ho.trans h3⟩
  · exact .inr ⟨a, more, hb.trans h1, h2, h3, ho.trans h4⟩
theorem RAt.moved {w : World} {R B : Nat} {b : List UInt8} {A : Option Addr} {c k : Nat} {cs : Array Value} (hb : Blk w R 62 cs) (hc : b.length ≤ c) (hm : c ≤ 9223372036854775807 ∧ b.length ≤ 140737488351232) (hr : RdB w B A b) (hBR : B ≤ R) (hk : k ≤ b.length) (hcs : 0 < cs.size) (hsz : cs = #[.slice A b.length c]) :
    RAt (w.setCell ⟨R, 0, none⟩ (.slice (if c = k then A else A.map (·.add k)) (b.length - k) (c - k))) R B (b.drop k) := by
  subst hsz
  have hl : (b.drop k).length = b.length - k := List.length_drop
  refine ⟨_, c - k, ?_, by rw [hl]; omega, by rw [hl]; omega, (hr.cut hk hc).setCell (p := ⟨R, 0, none⟩) hBR _, hBR⟩
  rw [hl]
  exact hb.set_ 0 _
theorem RAt.movedA {w : World} {R B : Nat} {b : List UInt8} {A : Option Addr} {c k : Nat} (hb : Blk w R 62 #[.slice A b.length c]) (hc : b.length ≤ c) (hm : c ≤ 9223372036854775807 ∧ b.length ≤ 140737488351232) (hr : RdB w B A b) (hBR : B ≤ R) (hk : k ≤ b.length) (hkc : k < c) :
    RAt (w.setCell ⟨R, 0, none⟩ (.slice (A.map (·.add k)) (b.length - k) (c - k))) R B (b.drop k) := by
  have h := RAt.moved hb hc hm hr hBR hk (by simp) rfl
  rw [if_neg (by omega)] at h
  exact h
theorem RAt.movedE {w : World} {R B : Nat} {b : List UInt8} {A : Option Addr} {c : Nat} (hb : Blk w R 62 #[.slice A b.length c]) (hc : b.length ≤ c) (A' : Option Addr) (hBR : B ≤ R) : RAt (w.setCell ⟨R, 0, none⟩ (.slice A' 0 0)) R B (b.drop c) := by
  have hl : b.drop c = [] := List.drop_eq_nil_of_le hc
  rw [hl]
  exact ⟨A', 0, hb.set_ 0 _, by simp, by simp, RdB.nil, hBR⟩
theorem only_set {w : World} {R : Nat} (v : Value) : Only (fun k => k = R) w (w.setCell ⟨R, 0, none⟩ v) := (Only.refl (fun k => k = R) w).setCell (p := ⟨R, 0, none⟩) rfl v
theorem tf_i64 {l : List UInt8} {k : Nat} (h : l.length ≤ k) (hk : k ≤ 8) : (Num.tf 0 l : Int) < 18446744073709551616 := by
  have := Num.tf_lt0 l
  have h2 : 256 ^ l.length ≤ 256 ^ 8 := Nat.pow_le_pow_right (by omega) (by omega)
  omega
set_option maxHeartbeats 2000000 in
theorem r_fixed (R B k : Nat) (b : List UInt8) (w : World) (h : RAt w R B b) (k1 : 1 ≤ k) (k8 : k ≤ 8) : Calls Try.prog 37 #[.pointer (some ⟨R, 0, none⟩), .int .i64 (k : Int)] w (RdOut (rdFix k) (Value.int .u64) R B b w) := by
  obtain ⟨A, c, hb, hc, hm, hr, hBR⟩ := h
  have f0 : w.cell? ⟨R, 0, none⟩ = some (.slice A b.length c) := hb.cell 0
  have fz : w.frozen? ⟨R, 0, none⟩ = false := hb.frozen 0
  have HT := hide (takeFixed_any b A c B (k : Int) w hr hc (by omega) (by omega) (by omega))
  have HB := hide hb
  have HR := hide hr
  clear hb hr
  by_cases hl : b.length < k
  · have HE : Hid (rdFix k b = .error 2) := if_pos hl
    rw [Num.takeFixed_short k1 k8 hl] at HT
    have HN := hide (fun r => need_bad r 2 w (by omega))
    clear hl
    go_enter Try.func37, Try.ntmps37
    go_wp2_with (first
      | (go_at_call 57; refine (unhide HT).mono ?_; rintro _ w1 ⟨rfl, rfl⟩)
      | (go_at_call 38; refine (unhide HN _).mono ?_; rintro _ w1 ⟨rfl, rfl⟩; unfold gaveUp))
    exact ⟨rfl, rdOut_err (unhide HE) (Only.refl _ _)⟩
  · have HE : Hid (rdFix k b = .ok ((Num.tf 0 (b.take k) : Nat), b.drop k)) := if_neg hl
    rw [Num.takeFixed_ok k1 k8 (by omega)] at HT
    have HN := hide (fun r => need_ok r w)
    have s1 : (0 : Int) ≤ (k : Int) := by omega
    have s2 : (k : Int) ≤ (b.length : Int) := by omega
    have s3 : (k : Int) ≤ (c : Int) := by omega
    obtain ⟨N, hN⟩ : ∃ N : Nat, Num.tf 0 (b.take k) = N := ⟨_, rfl⟩
    rw [hN] at HT HE
    clear hN
    have HK : Hid (k ≤ b.length) := hide (by omega)
    by_cases hck : c = k
    · obtain rfl : c = k := hck
      go_enter Try.func37, Try.ntmps37
      go_wp2_with (first
        | (go_at_call 57; refine (unhide HT).mono ?_; rintro _ w1 ⟨rfl, rfl⟩)
        | (go_at_call 38; refine (unhide HN _).mono ?_; rintro _ w1 ⟨rfl, rfl⟩))
      go_ret
      exact rdOut_ok (unhide HE) rfl (RAt.movedE (unhide HB) hc A hBR) (only_set _)
    · have HCK := hide hck
      have hck2 : k < c := by omega
      clear hck
      go_enter Try.func37, Try.ntmps37
      go_wp2_with (first
        | (go_at_call 57; refine (unhide HT).mono ?_; rintro _ w1 ⟨rfl, rfl⟩)
        | (go_at_call 38; refine (unhide HN _).mono ?_; rintro _ w1 ⟨rfl, rfl⟩))
      go_ret
      exact rdOut_ok (unhide HE) rfl (RAt.movedA (unhide HB) hc hm (unhide HR) hBR (unhide HK) hck2) (only_set _)
set_option maxHeartbeats 2000000 in
theorem r_uvar (R B : Nat) (b : List UInt8) (w : World) (h : RAt w R B b) : Calls Try.prog 61 #[.pointer (some ⟨R, 0, none⟩)] w (RdOut rdUv (Value.int .u64) R B b w) := by
  obtain ⟨A, c, hb, hc, hm, hr, hBR⟩ := h
  have f0 : w.cell? ⟨R, 0, none⟩ = some (.slice A b.length c) := hb.cell 0
  have fz : w.frozen? ⟨R, 0, none⟩ = false := hb.frozen 0
  have HT := hide (takeUvar_any b A c B w hr (by omega))
  have HB := hide hb
  have HR := hide hr
  clear hb hr
  by_cases hl : (Num.take b).2.2 = 0
  · have HE : Hid (rdUv b = .ok (((Num.take b).1 : Int), b.drop (Num.take b).2.1)) := if_pos hl
    rw [hl] at HT
    have HN := hide (fun r => need_ok r w)
    obtain ⟨N, k, e, ht⟩ : ∃ N k e, Num.take b = (N, k, e) := ⟨_, _, _, rfl⟩
    rw [ht] at HT HE hl
    simp only at HT HE hl
    subst hl
    have hk := (Num.take_only ht).2.2.1
    have s1 : (0 : Int) ≤ (k : Int) := by omega
    have s2 : (k : Int) ≤ (b.length : Int) := by omega
    have s3 : (k : Int) ≤ (c : Int) := by omega
    have HK : Hid (k ≤ b.length) := hide hk
    clear ht hk
    by_cases hck : c = k
    · obtain rfl : c = k := hck
      go_enter Try.func61, Try.ntmps61
      go_wp2_with (first
        | (go_at_call 70; refine (unhide HT).mono ?_; rintro _ w1 ⟨rfl, rfl⟩)
        | (go_at_call 38; refine (unhide HN _).mono ?_; rintro _ w1 ⟨rfl, rfl⟩))
      go_ret
      exact rdOut_ok (unhide HE) rfl (RAt.movedE (unhide HB) hc A hBR) (only_set _)
    · have hck2 : k < c := by omega
      clear hck
      go_enter Try.func61, Try.ntmps61
      go_wp2_with (first
        | (go_at_call 70; refine (unhide HT).mono ?_; rintro _ w1 ⟨rfl, rfl⟩)
        | (go_at_call 38; refine (unhide HN _).mono ?_; rintro _ w1 ⟨rfl, rfl⟩))
      go_ret
      exact rdOut_ok (unhide HE) rfl (RAt.movedA (unhide HB) hc hm (unhide HR) hBR (unhide HK) hck2) (only_set _)
  · have HE : Hid (rdUv b = .error (Num.take b).2.2) := if_neg hl
    have HN := hide (fun r => need_bad r (Num.take b).2.2 w hl)
    clear hl
    obtain ⟨er, her⟩ : ∃ er, (Num.take b).2.2 = er := ⟨_, rfl⟩
    rw [her] at HT HE HN
    clear her
    go_enter Try.func61, Try.ntmps61
    go_wp2_with (first
      | (go_at_call 70; refine (unhide HT).mono ?_; rintro _ w1 ⟨rfl, rfl⟩)
      | (go_at_call 38; refine (unhide HN _).mono ?_; rintro _ w1 ⟨rfl, rfl⟩; unfold gaveUp))
    exact ⟨rfl, rdOut_err (unhide HE) (Only.refl _ _)⟩
set_option maxHeartbeats 2000000 in
theorem r_bytes (R B k : Nat) (b : List UInt8) (w : World) (h : RAt w R B b) (hk0 : k ≤ 1000000) : Calls Try.prog 69 #[.pointer (some ⟨R, 0, none⟩), .int .i64 (k : Int)] w (RdOut (rdRaw k) Value.string R B b w) := by
  obtain ⟨A, c, hb, hc, hm, hr, hBR⟩ := h
  have f0 : w.cell? ⟨R, 0, none⟩ = some (.slice A b.length c) := hb.cell 0
  have fz : w.frozen? ⟨R, 0, none⟩ = false := hb.frozen 0
  have HB := hide hb
  have HR := hide hr
  by_cases hl : b.length < k
  · have HE : Hid (rdRaw k b = .error 2) := if_pos hl
    have HN := hide (fun r => need_bad r 2 w (by omega))
    have g1 : (b.length : Int) < (k : Int) := by omega
    clear hl hb hr
    go_enter Try.func69, Try.ntmps69
    go_wp2_with (go_at_call 38; refine (unhide HN _).mono ?_; rintro _ w1 ⟨rfl, rfl⟩; unfold gaveUp)
    exact ⟨rfl, rdOut_err (unhide HE) (Only.refl _ _)⟩
  · have HE : Hid (rdRaw k b = .ok (⟨(b.take k).toArray⟩, b.drop k)) := if_neg hl
    have g1 : ¬ (b.length : Int) < (k : Int) := by omega
    have hlen : (b.take k).length = k := by simp; omega
    have hst := run_str (P := Try.prog) (src := 31) (dst := 9) (e := 5) c (hr.take k) Try.underlying31 Try.underlying5 Try.underlying9
    rw [hlen] at hst
    have s1 : (0 : Int) ≤ (k : Int) := by omega
    have s2 : (k : Int) ≤ (b.length : Int) := by omega
    have s3 : (k : Int) ≤ (c : Int) := by omega
    have HK : Hid (k ≤ b.length) := hide (by omega)
    obtain ⟨S, hS⟩ : ∃ S : ByteArray, (⟨(b.take k).toArray⟩ : ByteArray) = S := ⟨_, rfl⟩
    rw [hS] at hst HE
    clear hlen hl hb hr hS
    by_cases hck : c = k
    · obtain rfl : c = k := hck
      go_enter Try.func69, Try.ntmps69
      go_wp2_with fail
      go_ret
      exact rdOut_ok (unhide HE) rfl (RAt.movedE (unhide HB) hc A hBR) (only_set _)
    · have hck2 : k < c := by omega
      clear hck
      go_enter Try.func69, Try.ntmps69
      go_wp2_with fail
      go_ret
      exact rdOut_ok (unhide HE) rfl (RAt.movedA (unhide HB) hc hm (unhide HR) hBR (unhide HK) hck2) (only_set _)
/-! ### a text behind its count -/
theorem text_err1 {c : Cd Int} {l er : Int} {b : List UInt8} (h : c.rd b = .error er) : (textC c l).rd b = .error er := by
  simp [textC, isoC, seqC, most, limC, h]
theorem text_long {c : Cd Int} {l n : Int} {b r : List UInt8} (h : c.rd b = .ok (n, r)) (hn : l < n) : (textC c l).rd b = .error 6 := by
  have h2 : ¬ (0 ≤ n ∧ n ≤ l) := by omega
  simp [textC, isoC, seqC, most, limC, h, h2]
theorem text_go {c : Cd Int} {l n : Int} {b r : List UInt8} (h : c.rd b = .ok (n, r)) (h0 : 0 ≤ n) (hn : n ≤ l) : (textC c l).rd b = rdRaw n.toNat r := by
  have h2 : decide (0 ≤ n ∧ n ≤ l) = true := decide_eq_true ⟨h0, hn⟩
  simp only [textC, isoC, seqC, most, limC, h, h2, if_true]
  show _ = (rawC n.toNat).rd r
  rcases (rawC n.toNat).rd r with e | ⟨x, r2⟩ <;> rfl
set_option maxHeartbeats 2000000 in
theorem r_short (R B : Nat) (l : Int) (b : List UInt8) (w : World) (h : RAt w R B b) (l0 : 0 ≤ l) (l1 : l ≤ 1000) : Calls Try.prog 58 #[.pointer (some ⟨R, 0, none⟩), .int .i64 l] w (RdOut (textC (fixC 1) l).rd Value.string R B b w) := by
  have HN : Hid (Calls Try.prog 37 #[.pointer (some ⟨R, 0, none⟩), .int .i64 1] w (RdOut (fixC 1).rd (Value.int .u64) R B b w)) := hide (r_fixed R B 1 b w h (by omega) (by omega))
  have hbw : ∀ n r, (fixC 1).rd b = .ok (n, r) → 0 ≤ n := fun n r hh => ((fix_law 1).bwd b n r hh).1.1
  have HBW := hide hbw
  clear h hbw
  go_enter Try.func58, Try.ntmps58
  go_wp2_with (first
    | (go_at_call 37
       refine Calls.mono (unhide HN) ?_
       rintro e1 w1 hout
       rcases hout with ⟨er, h1, rfl, ho⟩ | ⟨n, r1, h1, rfl, hr1, ho1⟩
       · unfold gaveUp
         go_wp2_with fail
         exact ⟨rfl, rdOut_err (text_err1 h1) ho⟩
       have h0 := unhide HBW n r1 h1
       have H1 := hide h1
       have HR1 := hide hr1
       have HO1 := hide ho1
       clear h1 hr1 ho1)
    | (go_at_call 59
       by_cases hnl : l < n
       · refine Calls.mono (least_bad _ n l 6 _ l0 hnl (by omega) (by omega)) ?_
         rintro _ w2 ⟨rfl, rfl⟩
         unfold gaveUp
         go_wp2_with fail
         exact ⟨rfl, rdOut_err (text_long (unhide H1) hnl) (unhide HO1)⟩
       refine Calls.mono (least_ok _ n l 6 _ h0 (by omega) (by omega)) ?_
       rintro _ w2 ⟨rfl, rfl⟩
       obtain ⟨k, rfl⟩ := Int.eq_ofNat_of_zero_le h0
       have HG := hide (text_go (l := l) (unhide H1) h0 (by omega))
       have HBY := hide (r_bytes R B k r1 _ (unhide HR1) (by omega))
       clear hnl)
    | (go_at_call 69
       refine Calls.mono (unhide HBY) ?_
       rintro e3 w3 hout
       have hout2 := hout.after (unhide HO1) (rd := rdRaw k) (b' := r1) rfl
       rcases hout with ⟨er, h3, rfl, ho3⟩ | ⟨s3, r3, h3, rfl, hr3, ho3⟩
       · unfold gaveUp
         go_wp2_with fail
         exact ⟨rfl, rdOut_err ((unhide HG).trans h3) ((unhide HO1).trans ho3)⟩
       have HF := hide (rdOut_ok (rd := (textC (fixC 1) l).rd) (val := Value.string) ((unhide HG).trans h3) rfl hr3 ((unhide HO1).trans ho3))
       clear h3 hr3 ho3 hout2))
  go_ret
  exact unhide HF
set_option maxHeartbeats 2000000 in
theorem r_text (R B : Nat) (l : Int) (b : List UInt8) (w : World) (h : RAt w R B b) (l0 : 0 ≤ l) (l1 : l ≤ 1000) : Calls Try.prog 62 #[.pointer (some ⟨R, 0, none⟩), .int .i64 l] w (RdOut (textC (uvC) l).rd Value.string R B b w) := by
  have HN : Hid (Calls Try.prog 61 #[.pointer (some ⟨R, 0, none⟩)] w (RdOut (uvC).rd (Value.int .u64) R B b w)) := hide (r_uvar R B b w h)
  have hbw : ∀ n r, (uvC).rd b = .ok (n, r) → 0 ≤ n := fun n r hh => ((uv_law).bwd b n r hh).1.1
  have HBW := hide hbw
  clear h hbw
  go_enter Try.func62, Try.ntmps62
  go_wp2_with (first
    | (go_at_call 61
       refine Calls.mono (unhide HN) ?_
       rintro e1 w1 hout
       rcases hout with ⟨er, h1, rfl, ho⟩ | ⟨n, r1, h1, rfl, hr1, ho1⟩
       · unfold gaveUp
         go_wp2_with fail
         exact ⟨rfl, rdOut_err (text_err1 h1) ho⟩
       have h0 := unhide HBW n r1 h1
       have H1 := hide h1
       have HR1 := hide hr1
       have HO1 := hide ho1
       clear h1 hr1 ho1)
    | (go_at_call 59
       by_cases hnl : l < n
       · refine Calls.mono (least_bad _ n l 6 _ l0 hnl (by omega) (by omega)) ?_
         rintro _ w2 ⟨rfl, rfl⟩
         unfold gaveUp
         go_wp2_with fail
         exact ⟨rfl, rdOut_err (text_long (unhide H1) hnl) (unhide HO1)⟩
       refine Calls.mono (least_ok _ n l 6 _ h0 (by omega) (by omega)) ?_
       rintro _ w2 ⟨rfl, rfl⟩
       obtain ⟨k, rfl⟩ := Int.eq_ofNat_of_zero_le h0
       have HG := hide (text_go (l := l) (unhide H1) h0 (by omega))
       have HBY := hide (r_bytes R B k r1 _ (unhide HR1) (by omega))
       clear hnl)
    | (go_at_call 69
       refine Calls.mono (unhide HBY) ?_
       rintro e3 w3 hout
       have hout2 := hout.after (unhide HO1) (rd := rdRaw k) (b' := r1) rfl
       rcases hout with ⟨er, h3, rfl, ho3⟩ | ⟨s3, r3, h3, rfl, hr3, ho3⟩
       · unfold gaveUp
         go_wp2_with fail
         exact ⟨rfl, rdOut_err ((unhide HG).trans h3) ((unhide HO1).trans ho3)⟩
       have HF := hide (rdOut_ok (rd := (textC (uvC) l).rd) (val := Value.string) ((unhide HG).trans h3) rfl hr3 ((unhide HO1).trans ho3))
       clear h3 hr3 ho3 hout2))
  go_ret
  exact unhide HF
end Go.Proofs.Ytkgacehnpdijaaa
namespace Go.Proofs.Ytkgacehnpdijaaa
set_option linter.unusedVariables false
open Go.RowKit Wire

abbrev zeroMsg : Array Value := #[.int .i64 0, .int .u64 0, .int .u64 0, .int .u64 0, .string ⟨#[]⟩, .string ⟨#[]⟩, .slice none 0 0, .slice none 0 0, .int .i64 0, .int .i64 0, .int .i64 0, .int .i64 0, .int .i64 0, .string ⟨#[]⟩]
theorem catch_idle (pm pe : Nat) (w : World) :
    CallsD Try.prog 36 #[.pointer (some ⟨pm, 0, none⟩), .pointer (some ⟨pe, 0, none⟩)] .returning w fun e u' w' => e = .returned (.tuple #[]) ∧ u' = .returning ∧ w' = w := by
  refine callsD_of_wpS Try.func36 rfl fun c₀ cs hu => ?_
  apply wpS_seq
  apply wpS_region
  simp [wpOpsS, go_sem, recoverD, hu, Try.ntmps36, Exit.thenS]
  refine wpS_of_wp ?_
  go_wp2_with fail
  cases c₀
  simp_all [bodyPostS, results, Try.results36]
set_option maxRecDepth 20000 in
theorem catch_gave (pm pe : Nat) (cs0 : Array Value) (x er : Int) (older : List PanicEntry) (w : World) (hm : Blk w pm 28 cs0) (hs : cs0.size = 14) (he : Blk w pe 32 #[.int .i64 x]) (hne : pm ≠ pe) :
    CallsD Try.prog 36 #[.pointer (some ⟨pm, 0, none⟩), .pointer (some ⟨pe, 0, none⟩)] (.panicking ({ v := .iface 59 (.int .i64 er), recovered := false } :: older)) w fun e u' w' =>
      e = .returned (.tuple #[]) ∧ u' = .panicking ({ v := .iface 59 (.int .i64 er), recovered := true } :: older) ∧ Blk w' pm 28 zeroMsg ∧ Blk w' pe 32 #[.int .i64 er] ∧ Only (fun k => k = pm ∨ k = pe) w w' := by
  have HM := hide hm
  have HE := hide he
  have fe : w.cell? ⟨pe, 0, none⟩ = some (.int .i64 x) := he.cell 0
  have hel := he.lt
  clear hm he
  refine callsD_of_wpS Try.func36 rfl fun c₀ cs hu => ?_
  apply wpS_seq
  apply wpS_region
  simp [wpOpsS, go_sem, recoverD, hu, Try.ntmps36, Exit.thenS]
  refine wpS_of_wp ?_
  change Code.wp _ _ _ ⟨#[.pointer (some ⟨pm, 0, none⟩), .pointer (some ⟨pe, 0, none⟩), undef, undef, undef, .iface 59 (.int .i64 er), undef, undef, undef, undef, undef, undef, undef], []⟩ _
  have hta : ∀ u : World, (Instr.typeAssert (.iface 59 (.int .i64 er)) 20 59 true).run Try.prog u = .ok (.tuple #[.int .i64 er, .bool true]) u := fun u => by kernel_rfl
  have hfz : ∀ u : World, Blk u pe 32 #[.int .i64 x] → u.cell? ⟨pe, 0, none⟩ = some (.int .i64 x) ∧ u.frozen? ⟨pe, 0, none⟩ = false := fun u h => ⟨h.cell 0, h.frozen 0⟩
  have HFZ := hide hfz
  clear hfz fe hel
  go_wp2_with (refine wpList_store_blk rfl 28 (.tmp 0) (.tmp 11) rfl pm zeroMsg (by rfl) (by rfl) 28 cs0 (unhide HM) (by kernel_rfl) hs (by kernel_rfl) ?_
               intro w5 hb5 hg5
               have he5 := (unhide HE).grown hg5 (by intro h; injection h with h; exact hne h.symm)
               have HB5 := hide hb5
               have HG5 := hide hg5
               have HE5 := hide he5
               obtain ⟨fe, fz⟩ := unhide HFZ w5 he5
               have hel := he5.lt
               clear hb5 hg5 he5)
  have h1 : Blk (w5.setCell ⟨pe, 0, none⟩ (.int .i64 er)) pm 28 zeroMsg := (unhide HB5).far (p := ⟨pe, 0, none⟩) hne _
  have h2 : Blk (w5.setCell ⟨pe, 0, none⟩ (.int .i64 er)) pe 32 #[.int .i64 er] := (unhide HE5).set_ 0 _
  have h3 : Only (fun k => k = pm ∨ k = pe) w (w5.setCell ⟨pe, 0, none⟩ (.int .i64 er)) := (Only.of_grown (unhide HG5) (fun k hk => by injection hk with hk; exact .inl hk.symm)).setCell (p := ⟨pe, 0, none⟩) (.inr rfl) _
  clear hta fe fz
  obtain ⟨w6, hw6⟩ : ∃ u, w5.setCell ⟨pe, 0, none⟩ (.int .i64 er) = u := ⟨_, rfl⟩
  rw [hw6] at h1 h2 h3 ⊢
  cases c₀
  simp_all [bodyPostS, results, Try.results36]
end Go.Proofs.Ytkgacehnpdijaaa
namespace Go.Proofs.Ytkgacehnpdijaaa.Wire
set_option linter.unusedVariables false

def mapE {α β : Type} (f : α → β) (x : Except Int (α × List UInt8)) : Except Int (β × List UInt8) := match x with
  | .error e => .error e
  | .ok (a, r) => .ok (f a, r)
section
variable {α β γ σ : Type} {c : Cd α} {d : α → Cd β} {f : α × β → γ} {b r : List UInt8} {er : Int} {a : α}
theorem mapE_id (x : Except Int (α × List UInt8)) : mapE (fun a => a) x = x := by rcases x with e | ⟨a, r⟩ <;> rfl
theorem seq_err (h : c.rd b = .error er) : mapE f ((seqC c d).rd b) = .error er := by
  show mapE f (match c.rd b with | .error e => Except.error e | .ok (a, r) => match (d a).rd r with | .error e => .error e | .ok (x, r2) => .ok ((a, x), r2)) = _
  rw [h]
  rfl
theorem seq_ok (h : c.rd b = .ok (a, r)) : mapE f ((seqC c d).rd b) = mapE (fun x => f (a, x)) ((d a).rd r) := by
  show mapE f (match c.rd b with | .error e => Except.error e | .ok (a, r) => match (d a).rd r with | .error e => .error e | .ok (x, r2) => .ok ((a, x), r2)) = _
  rw [h]
  show mapE f (match (d a).rd r with | .error e => Except.error e | .ok (x, r2) => .ok ((a, x), r2)) = _
  rcases (d a).rd r with e | ⟨x, r2⟩ <;> rfl
theorem iso_go {g : α → β} {h : β → α} {f : β → γ} : mapE f ((isoC c g h).rd b) = mapE (fun a => f (g a)) (c.rd b) := by
  show mapE f (match c.rd b with | .error e => Except.error e | .ok (a, r) => .ok (g a, r)) = _
  rcases c.rd b with e | ⟨x, r2⟩ <;> rfl
theorem end_err {f : α → γ} (h : c.rd b = .error er) : mapE f (c.rd b) = .error er := by rw [h]; rfl
theorem end_ok {f : α → γ} (h : c.rd b = .ok (a, r)) : mapE f (c.rd b) = .ok (f a, r) := by rw [h]; rfl
theorem iso_rd {g : α → β} {h : β → α} : (isoC c g h).rd b = mapE g (c.rd b) := by
  show (match c.rd b with | .error e => Except.error e | .ok (a, r) => .ok (g a, r)) = _
  rcases c.rd b with e | ⟨x, r2⟩ <;> rfl
end
section
variable {α σ γ : Type} {c : σ → Cd α} {next : α → σ} {f : List α → γ} {b r : List UInt8} {er : Int} {a : α} {n : Nat} {s : σ}
theorem list_err (h : (c s).rd b = .error er) : mapE f (rdL c next (n + 1) s b) = .error er := by
  unfold rdL
  rw [h]
  rfl
theorem list_ok (h : (c s).rd b = .ok (a, r)) : mapE f (rdL c next (n + 1) s b) = mapE (fun l => f (a :: l)) (rdL c next n (next a) r) := by
  show mapE f (match (c s).rd b with | .error e => Except.error e | .ok (a, r) => match rdL c next n (next a) r with | .error e => .error e | .ok (l, r2) => .ok (a :: l, r2)) = _
  rw [h]
  show mapE f (match rdL c next n (next a) r with | .error e => Except.error e | .ok (l, r2) => .ok (a :: l, r2)) = _
  rcases rdL c next n (next a) r with e | ⟨l, r2⟩ <;> rfl
theorem list_nil : mapE f (rdL c next 0 s b) = .ok (f [], b) := rfl
end
section
variable {c : Cd Int} {l e er n : Int} {b r : List UInt8}
theorem most_err (h : c.rd b = .error er) : (most c l e).rd b = .error er := by simp [most, limC, h]
theorem most_long (h : c.rd b = .ok (n, r)) (hn : l < n) : (most c l e).rd b = .error e := by
  have h2 : ¬ (0 ≤ n ∧ n ≤ l) := by omega
  simp [most, limC, h, h2]
theorem most_go (h : c.rd b = .ok (n, r)) (h0 : 0 ≤ n) (hn : n ≤ l) : (most c l e).rd b = .ok (n, r) := by
  have h2 : decide (0 ≤ n ∧ n ≤ l) = true := decide_eq_true ⟨h0, hn⟩
  simp only [most, limC, h, h2, if_true]
end
theorem gone_rd (b : List UInt8) : goneC.rd b = mapE (fun n => n == 1) ((most (fixC 1) 1 3).rd b) := iso_rd
/-- a row behind its count -/
theorem row_rd {α σ : Type} {n : Cd Int} {l : Int} {c : σ → Cd α} {next : α → σ} {s : σ} {b r : List UInt8} {k : Int} (h : (most n l 6).rd b = .ok (k, r)) : (rowC n l c next s).rd b = rdL c next k.toNat s r := by
  show (isoC (seqC (most n l 6) fun k => listC c next k.toNat s) (fun p => p.2) _).rd b = _
  rw [iso_rd]
  have := seq_ok (d := fun k => listC c next k.toNat s) (f := fun p : Int × List α => p.2) h
  rw [this]
  exact mapE_id _
theorem row_err {α σ : Type} {n : Cd Int} {l : Int} {c : σ → Cd α} {next : α → σ} {s : σ} {b : List UInt8} {er : Int} (h : (most n l 6).rd b = .error er) : (rowC n l c next s).rd b = .error er := by
  show (isoC (seqC (most n l 6) fun k => listC c next k.toNat s) (fun p => p.2) _).rd b = _
  rw [iso_rd]
  exact seq_err h
theorem stamp_err {c : Cd Int} {s er : Int} {b : List UInt8} (h : c.rd b = .error er) : (stampC c s).rd b = .error er := by
  simp [stampC, isoC, limC, h]
theorem stamp_ok {c : Cd Int} {s n : Int} {b r : List UInt8} (h : c.rd b = .ok (n, r)) (h0 : 0 ≤ n) (h1 : n < 18446744073709551616) : (stampC c s).rd b = .ok ((n + s) % 18446744073709551616, r) := by
  have h2 : decide (0 ≤ n ∧ n < 18446744073709551616) = true := decide_eq_true ⟨h0, h1⟩
  simp only [stampC, isoC, limC, h, h2, if_true]
theorem stamp8 (b : List UInt8) : (stampC (fixC 8) 0).rd b = (fixC 8).rd b := by
  rcases h : (fixC 8).rd b with er | ⟨n, r⟩
  · exact stamp_err h
  · have hb := ((fix_law 8).bwd _ _ _ h).1
    have h1 : n < 18446744073709551616 := hb.2
    rw [stamp_ok h hb.1 h1]
    have : (n + 0) % 18446744073709551616 = n := by have := hb.1; omega
    rw [this]
end Go.Proofs.Ytkgacehnpdijaaa.Wire
namespace Go.Proofs.Ytkgacehnpdijaaa
set_option linter.unusedVariables false
set_option linter.unusedSimpArgs false
open Go.RowKit Wire

set_option maxHeartbeats 2000000 in
theorem r_flag (R B : Nat) (b : List UInt8) (w : World) (h : RAt w R B b) : Calls Try.prog 60 #[.pointer (some ⟨R, 0, none⟩)] w (RdOut goneC.rd Value.bool R B b w) := by
  have HN := hide (r_fixed R B 1 b w h (by omega) (by omega))
  have hbw : ∀ n r, (fixC 1).rd b = .ok (n, r) → 0 ≤ n := fun n r hh => ((fix_law 1).bwd b n r hh).1.1
  have HBW := hide hbw
  clear h hbw
  go_enter Try.func60, Try.ntmps60
  go_wp2_with (first
    | (go_at_call 37
       refine Calls.mono (unhide HN) ?_
       rintro e1 w1 hout
       rcases hout with ⟨er, h1, rfl, ho⟩ | ⟨n, r1, h1, rfl, hr1, ho1⟩
       · unfold gaveUp
         go_wp2_with fail
         exact ⟨rfl, rdOut_err ((gone_rd b).trans (end_err (c := most (fixC 1) 1 3) (most_err (c := fixC 1) h1))) ho⟩
       have h0 := unhide HBW n r1 h1
       have H1 := hide h1
       have HR1 := hide hr1
       have HO1 := hide ho1
       clear h1 hr1 ho1)
    | (go_at_call 59
       by_cases hnl : 1 < n
       · refine Calls.mono (least_bad _ n 1 3 _ (by omega) hnl (by omega) (by omega)) ?_
         rintro _ w2 ⟨rfl, rfl⟩
         unfold gaveUp
         go_wp2_with fail
         exact ⟨rfl, rdOut_err ((gone_rd b).trans (end_err (c := most (fixC 1) 1 3) (most_long (c := fixC 1) (unhide H1) hnl))) (unhide HO1)⟩
       refine Calls.mono (least_ok _ n 1 3 _ h0 (by omega) (by omega)) ?_
       rintro _ w2 ⟨rfl, rfl⟩
       have HG := hide ((gone_rd b).trans (end_ok (c := most (fixC 1) 1 3) (most_go (c := fixC 1) (unhide H1) h0 (by omega))))
       clear hnl))
  go_ret
  exact rdOut_ok (unhide HG) rfl (unhide HR1) (unhide HO1)
/-- the parts of nothing -/
def zParts : Parts := (0, 0, 0, ByteArray.empty, ByteArray.empty, [], [], Wire.cmd0)
/-- a message's rows that are the call's own -/
structure MOwn (w : World) (base : Nat) (m : Ms) (A : Option Addr) (c : Nat) (vA : Option Addr) (vc : Nat) : Prop where
  vers : w.ownsRow base 49 6 (.slice A m.vers.length c) m.vers.length (vrow m.vers)
  vec : w.ownsRow base 22 1 (.slice vA m.vec.length vc) m.vec.length (m.vec.map (Value.int .u64))
/-- what reading the parts comes to -/
def PtOut (rd : Rd Parts) (kd : Int) (R B mm : Nat) (b : List UInt8) (w : World) (e : Ending) (w' : World) : Prop :=
  (∃ er, rd b = .error er ∧ e = gaveUp er ∧ (∃ cs, Blk w' mm 28 cs ∧ cs.size = 14) ∧ Only (fun k => k = R ∨ k = mm) w w') ∨
  ∃ p more A c vA vc, rd b = .ok (p, more) ∧ e = .returned (.tuple #[]) ∧ RAt w' R B more ∧ Blk w' mm 28 (mcells (mkMs kd p) A c vA vc) ∧ MOwn w' w.heap.size (mkMs kd p) A c vA vc ∧ Only (fun k => k = R ∨ k = mm) w w'
theorem only_R {R mm : Nat} {w w' : World} (h : Only (fun k => k = R) w w') : Only (fun k => k = R ∨ k = mm) w w' := h.mono fun k _ hk => .inl hk
theorem only_M {R mm : Nat} {w : World} (i : Nat) (v : Value) : Only (fun k => k = R ∨ k = mm) w (w.setCell ⟨mm, i, none⟩ v) := (Only.refl (fun k => k = R ∨ k = mm) w).setCell (p := ⟨mm, i, none⟩) (.inr rfl) v
theorem verinfo : (Try.prog.info? 49).map (fun i => (i.zero, i.size, i.bytes)) = some (some (.agg #[.string ⟨#[]⟩, .string ⟨#[]⟩, .bool false, .int .u64 0, .int .i64 0, .int .i64 0]), 6, 64) := by kernel_rfl
theorem u64info : (Try.prog.info? 22).map (fun i => (i.zero, i.size, i.bytes)) = some (some (.int .u64 0), 1, 8) := by kernel_rfl
theorem rdV_new (w : World) (cs : Array Value) (t : TypeId) (fr : Nat × Nat) : RdV (w.alloc (.cells cs t fr)) (w.heap.size + 1) (some ⟨w.heap.size, 0, none⟩) cs.toList := fun _ =>
  ⟨_, rfl, by simp, fun j u hu => by rw [add_zero_off, cell_new, ← Array.getElem?_toList]; exact hu⟩
theorem vcs_one (v : Vr) : ∀ u ∈ vcs v, u.oneCell' = true := by
  intro u hu
  simp only [vcs, List.mem_cons, List.not_mem_nil, or_false] at hu
  rcases hu with rfl | rfl | rfl | rfl | rfl | rfl <;> rfl
end Go.Proofs.Ytkgacehnpdijaaa
namespace Go.Proofs.Ytkgacehnpdijaaa
set_option linter.unusedVariables false
set_option linter.unusedSimpArgs false
open Go.RowKit Wire
theorem vers_more {x : Except Int (List Vr × List UInt8)} {c : Int → Cd Vr} {acc : List Vr} {n : Nat} {s : Int} {bb q : List UInt8} {v : Vr}
    (h : x = mapE (fun l => acc ++ l) (rdL c (fun v => v.ts) (n + 1) s bb)) (hv : (c s).rd bb = .ok (v, q)) :
    x = mapE (fun l => (acc ++ [v]) ++ l) (rdL c (fun v => v.ts) n (lastOr 0 (acc ++ [v])) q) := by
  rw [h, list_ok hv]
  simp [lastOr]
theorem ints_more {x : Except Int (List Int × List UInt8)} {c : Cd Int} {acc : List Int} {n : Nat} {bb q : List UInt8} {v : Int}
    (h : x = mapE (fun l => acc ++ l) (rdL (fun _ : Unit => c) (fun _ => ()) (n + 1) () bb)) (hv : c.rd bb = .ok (v, q)) :
    x = mapE (fun l => (acc ++ [v]) ++ l) (rdL (fun _ : Unit => c) (fun _ => ()) n () q) := by
  rw [h, list_ok (c := fun _ : Unit => c) (s := ()) hv]
  simp
theorem row_end {α σ : Type} {x : Except Int (List α × List UInt8)} {c : σ → Cd α} {next : α → σ} {acc : List α} {s : σ} {bb : List UInt8}
    (h : x = mapE (fun l => acc ++ l) (rdL c next 0 s bb)) : x = .ok (acc, bb) := h.trans (list_nil.trans (by simp))
/-- five numbers and a key -/
def cmOf (l : List Int) (s : ByteArray) : Cm := ⟨l.getD 0 0, l.getD 1 0, l.getD 2 0, l.getD 3 0, l.getD 4 0, s⟩
def fiveC (c : Cd Int) : Cd (List Int) := listC (fun _ : Unit => c) (fun _ => ()) 5 ()
theorem five_rd (c : Cd Int) (b : List UInt8) : (fiveC c).rd b = mapE (fun l => [] ++ l) (rdL (fun _ : Unit => c) (fun _ => ()) 5 () b) := by
  show rdL (fun _ : Unit => c) (fun _ => ()) 5 () b = _
  rcases rdL (fun _ : Unit => c) (fun _ => ()) 5 () b with e | ⟨a, r⟩ <;> rfl
theorem cmd_five (num : Nat → Cd Int) (b : List UInt8) : (cmdC num).rd b = mapE (fun p => cmOf p.1 p.2) ((seqC (fiveC (most (num 1) 255 1)) fun _ => textC (num 1) 16).rd b) := by
  unfold cmdC
  rw [iso_rd]
  generalize most (num 1) 255 1 = c
  generalize textC (num 1) 16 = t
  have hfive : (fiveC c).rd b = rdL (fun _ : Unit => c) (fun _ => ()) 5 () b := rfl
  rcases h0 : c.rd b with e | ⟨a0, r0⟩
  · rw [seq_err h0, seq_err (er := e) (c := fiveC c) (d := fun _ => t) (f := fun p : List Int × ByteArray => cmOf p.1 p.2) (hfive.trans (by simp only [rdL, h0]))]
  rw [seq_ok h0]
  rcases h1 : c.rd r0 with e | ⟨a1, r1⟩
  · rw [seq_err h1, seq_err (er := e) (c := fiveC c) (d := fun _ => t) (f := fun p : List Int × ByteArray => cmOf p.1 p.2) (hfive.trans (by simp only [rdL, h0, h1]))]
  rw [seq_ok h1]
  rcases h2 : c.rd r1 with e | ⟨a2, r2⟩
  · rw [seq_err h2, seq_err (er := e) (c := fiveC c) (d := fun _ => t) (f := fun p : List Int × ByteArray => cmOf p.1 p.2) (hfive.trans (by simp only [rdL, h0, h1, h2]))]
  rw [seq_ok h2]
  rcases h3 : c.rd r2 with e | ⟨a3, r3⟩
  · rw [seq_err h3, seq_err (er := e) (c := fiveC c) (d := fun _ => t) (f := fun p : List Int × ByteArray => cmOf p.1 p.2) (hfive.trans (by simp only [rdL, h0, h1, h2, h3]))]
  rw [seq_ok h3]
  rcases h4 : c.rd r3 with e | ⟨a4, r4⟩
  · rw [seq_err h4, seq_err (er := e) (c := fiveC c) (d := fun _ => t) (f := fun p : List Int × ByteArray => cmOf p.1 p.2) (hfive.trans (by simp only [rdL, h0, h1, h2, h3, h4]))]
  rw [seq_ok h4]
  rw [seq_ok (c := fiveC c) (d := fun _ => t) (f := fun p : List Int × ByteArray => cmOf p.1 p.2) (a := [a0, a1, a2, a3, a4]) (r := r4) (hfive.trans (by simp only [rdL, h0, h1, h2, h3, h4]))]
  rfl
/-- the array in which the five numbers are put -/
def cells5 (l : List Int) : Array Value := #[.int .i64 (l.getD 0 0), .int .i64 (l.getD 1 0), .int .i64 (l.getD 2 0), .int .i64 (l.getD 3 0), .int .i64 (l.getD 4 0)]
theorem cells5_set {l : List Int} {k : Nat} (hl : l.length = k) (hk : k < 5) (n : Int) : (cells5 l).setIfInBounds k (.int .i64 n) = cells5 (l ++ [n]) := by
  subst hl
  match l, hk with
  | [], _ => rfl
  | [a], _ => rfl
  | [a, b], _ => rfl
  | [a, b, c], _ => rfl
  | [a, b, c, d], _ => rfl
  | a :: b :: c :: d :: e :: l, h => simp at h; omega
theorem cells5_at {w : World} {g : Nat} {t : TypeId} {l : List Int} (h : Blk w g t (cells5 l)) {k : Nat} (hk : k < 5) : w.cell? ⟨g, k, none⟩ = some (.int .i64 (l.getD k 0)) := by
  rw [h.cell k]
  match k, hk with
  | 0, _ => rfl
  | 1, _ => rfl
  | 2, _ => rfl
  | 3, _ => rfl
  | 4, _ => rfl
theorem mapE_comp {α β γ : Type} {f : α → β} {g : β → γ} (x : Except Int (α × List UInt8)) : mapE g (mapE f x) = mapE (fun a => g (f a)) x := by rcases x with e | ⟨a, r⟩ <;> rfl
/-- what is written into a new block doesn't count -/
theorem arr_only {w w' : World} {R mm aa : Nat} (haa : w.heap.size = aa) (h : Only (fun k => k = R ∨ k = aa) w w') : Only (fun k => k = R ∨ k = mm) w w' :=
  h.mono fun k hk hs => hs.elim .inl fun e => by omega
theorem five_of {l : List Int} (h : l.length = 5) : ∃ a b c d e, l = [a, b, c, d, e] := by
  match l, h with
  | [a, b, c, d, e], _ => exact ⟨a, b, c, d, e, rfl⟩
def At5 (w : World) (g : Nat) (c0 c1 c2 c3 c4 : Int) : Prop :=
  w.cell? ⟨g, 0, none⟩ = some (.int .i64 c0) ∧ w.cell? ⟨g, 1, none⟩ = some (.int .i64 c1) ∧ w.cell? ⟨g, 2, none⟩ = some (.int .i64 c2) ∧ w.cell? ⟨g, 3, none⟩ = some (.int .i64 c3) ∧ w.cell? ⟨g, 4, none⟩ = some (.int .i64 c4)
def setsAt : Array Value → Nat → List Value → Array Value
  | cs, _, [] => cs
  | cs, o, v :: r => setsAt (cs.setIfInBounds o v) (o + 1) r
theorem Blk.setCells {g : Nat} {t : TypeId} : ∀ {w : World} {cs : Array Value} (h : Blk w g t cs) (vs : List Value) (o : Nat), Blk (w.setCells g o vs) g t (setsAt cs o vs)
  | _, _, h, [], _ => h
  | _, _, h, v :: r, o => (h.set_ o v).setCells r (o + 1)
theorem Only.setCells {S : Nat → Prop} {g : Nat} (hg : S g) : ∀ (vs : List Value) (o : Nat) (w : World), Only S w (w.setCells g o vs)
  | [], _, w => Only.refl S w
  | v :: r, o, w => (Only.setCell (S := S) (p := ⟨g, o, none⟩) (Only.refl S w) hg v).trans (Only.setCells hg r (o + 1) _)
theorem Blk.there {w : World} {g : Nat} {t : TypeId} {cs : Array Value} (h : Blk w g t cs) {o n : Nat} (hn : o + n ≤ cs.size) : w.there g o n := fun j hj => by
  refine ⟨?_, h.frozen _⟩
  rw [h.cell, Array.getElem?_eq_getElem (by omega)]
  rfl
theorem if_wanted {P : Program} {ops : Array Oper} {o : Oper} {a : Act} {w : World} {K : Act → World → Prop} {Q : Exit → Act → World → Prop} {E : Prop} (hgd : o.guard = none) (h : Oper.wp P o a w K Q) :
    if Region.wanted o (yielded ops a.tmps) = true then Oper.wp P o a w K Q else E := by
  have hw : Region.wanted o (yielded ops a.tmps) = true := by simp [Region.wanted, hgd]
  rw [if_pos hw]
  exact h
/-- a row of the message grows -/
theorem grown_ends {w x x7 : World} {R B mm i : Nat} {q : List UInt8} {v u : Value} {o : Obj} (hr : RAt x R B q) (hO : Only (fun k => k = R ∨ k = mm) w x)
    (hv : ∀ k, v.ownBlock = some k → w.heap.size ≤ k) (hg : (x.alloc o).grownBy x7 v.ownBlock) (hBm : B ≤ mm) (hne : mm ≠ R) (hR : R < w.heap.size) :
    RAt (x7.setCell ⟨mm, i, none⟩ u) R B q ∧ Only (fun k => k = R ∨ k = mm) w (x7.setCell ⟨mm, i, none⟩ u) := by
  have hBR : B ≤ R := by obtain ⟨A, c, h1, h2, h3, h4, h5⟩ := hr; exact h5
  have h1 : Only (fun k => v.ownBlock = some k ∨ k = mm) x (x7.setCell ⟨mm, i, none⟩ u) :=
    ((((Only.refl _ x).alloc o).trans (Only.of_grown hg fun k hk => .inl hk)).setCell (p := ⟨mm, i, none⟩) (.inr rfl) u)
  refine ⟨hr.only h1 fun k hk => ?_, ?_⟩
  · rcases hk with hk | hk
    · have := hv k hk
      omega
    · subst hk; exact ⟨hBm, hne⟩
  · refine hO.trans' h1 fun k hk => ?_
    rcases hk with hk | hk
    · exact .inr (hv k hk)
    · exact .inl (.inr hk)
end Go.Proofs.Ytkgacehnpdijaaa
