/- A message and its two bodies. No program in sight. -/
import Derived.Test.YtkgacehnpdijaaaWireCodec
namespace Go.Proofs.Ytkgacehnpdijaaa.Wire
set_option linter.unusedVariables false
open Num

structure Vr where
  key : ByteArray
  val : ByteArray
  gone : Bool
  ts : Int
  dc : Int
  tx : Int
structure Cm where
  kind : Int
  dc : Int
  shard : Int
  node : Int
  mode : Int
  key : ByteArray
deriving DecidableEq
structure Ms where
  kind : Int
  id : Int
  n : Int
  ts : Int
  lo : ByteArray
  hi : ByteArray
  vers : List Vr
  vec : List Int
  cmd : Cm
/-- a number that is not above a limit -/
def most (c : Cd Int) (l : Int) (e : Int) : Cd Int := limC c (fun n => decide (0 ≤ n ∧ n ≤ l)) e
theorem most_law {c : Cd Int} (h : c.Law) (l e : Int) : (most c l e).Law := lim_law _ _ h
theorem most_ok {c : Cd Int} {l e n : Int} (h : (most c l e).ok n) : 0 ≤ n ∧ n ≤ l := of_decide_eq_true h.2
/-- a text behind its count -/
def textC (c : Cd Int) (l : Int) : Cd ByteArray := isoC (seqC (most c l 6) fun n => rawC n.toNat) (fun p => p.2) (fun s => ((s.data.toList.length : Int), s))
theorem text_law {c : Cd Int} (h : c.Law) (l : Int) : (textC c l).Law := by
  refine iso_law (seq_law (most_law h l 6) fun n _ => raw_law _) ?_
  rintro ⟨n, s⟩ ⟨h1, h2⟩
  have h3 := (most_ok h1).1
  have h4 : s.data.toList.length = n.toNat := h2
  show (((s.data.toList.length : Int), s) : Int × ByteArray) = (n, s)
  rw [h4, Int.toNat_of_nonneg h3]
def goneC : Cd Bool := isoC (most (fixC 1) 1 3) (fun n => n == 1) (fun b => if b then 1 else 0)
theorem gone_law : goneC.Law := by
  refine iso_law (most_law (fix_law 1) 1 3) fun n h => ?_
  have := most_ok h
  rcases (show n = 0 ∨ n = 1 by omega) with rfl | rfl <;> rfl
/-- a stamp, told from the one ahead -/
def stampC (c : Cd Int) (s : Int) : Cd Int := isoC (limC c (fun n => decide (0 ≤ n ∧ n < 18446744073709551616)) 0) (fun n => (n + s) % 18446744073709551616) (fun t => (t - s) % 18446744073709551616)
theorem stamp_law {c : Cd Int} (h : c.Law) (s : Int) : (stampC c s).Law := by
  refine iso_law (lim_law _ _ h) fun n hn => ?_
  have h1 : 0 ≤ n ∧ n < 18446744073709551616 := of_decide_eq_true hn.2
  show ((n + s) % 18446744073709551616 - s) % 18446744073709551616 = n
  omega
def verC (num : Nat → Cd Int) (ahead : Bool) (s : Int) : Cd Vr :=
  isoC (seqC (textC (num 1) 16) fun _ => seqC (textC (num 1) 64) fun _ => seqC goneC fun _ => seqC (stampC (num 8) (if ahead then s else 0)) fun _ => seqC (most (num 1) 3 1) fun _ => most (num 4) 1073741824 1)
    (fun p => ⟨p.1, p.2.1, p.2.2.1, p.2.2.2.1, p.2.2.2.2.1, p.2.2.2.2.2⟩) (fun v => (v.key, v.val, v.gone, v.ts, v.dc, v.tx))
theorem ver_law {num : Nat → Cd Int} (h : ∀ w, (num w).Law) (ahead : Bool) (s : Int) : (verC num ahead s).Law :=
  iso_law (seq_law (text_law (h 1) 16) fun _ _ => seq_law (text_law (h 1) 64) fun _ _ => seq_law gone_law fun _ _ => seq_law (stamp_law (h 8) _) fun _ _ => seq_law (most_law (h 1) 3 1) fun _ _ => most_law (h 4) 1073741824 1) fun p _ => rfl
/-- a row behind its count -/
def rowC {α σ : Type} (n : Cd Int) (l : Int) (c : σ → Cd α) (next : α → σ) (s : σ) : Cd (List α) := isoC (seqC (most n l 6) fun k => listC c next k.toNat s) (fun p => p.2) (fun r => ((r.length : Int), r))
theorem row_law {α σ : Type} {n : Cd Int} (h : n.Law) (l : Int) {c : σ → Cd α} (hc : ∀ s, (c s).Law) (next : α → σ) (s : σ) : (rowC n l c next s).Law := by
  refine iso_law (seq_law (most_law h l 6) fun k _ => list_law hc _ s) ?_
  rintro ⟨k, r⟩ ⟨h1, h2⟩
  have h3 := (most_ok h1).1
  have h4 : r.length = k.toNat := h2.1
  show (((r.length : Int), r) : Int × List α) = (k, r)
  rw [h4, Int.toNat_of_nonneg h3]
def cmdC (num : Nat → Cd Int) : Cd Cm :=
  isoC (seqC (most (num 1) 255 1) fun _ => seqC (most (num 1) 255 1) fun _ => seqC (most (num 1) 255 1) fun _ => seqC (most (num 1) 255 1) fun _ => seqC (most (num 1) 255 1) fun _ => textC (num 1) 16)
    (fun p => ⟨p.1, p.2.1, p.2.2.1, p.2.2.2.1, p.2.2.2.2.1, p.2.2.2.2.2⟩) (fun c => (c.kind, c.dc, c.shard, c.node, c.mode, c.key))
theorem cmd_law {num : Nat → Cd Int} (h : ∀ w, (num w).Law) : (cmdC num).Law :=
  iso_law (seq_law (most_law (h 1) 255 1) fun _ _ => seq_law (most_law (h 1) 255 1) fun _ _ => seq_law (most_law (h 1) 255 1) fun _ _ => seq_law (most_law (h 1) 255 1) fun _ _ => seq_law (most_law (h 1) 255 1) fun _ _ => text_law (h 1) 16) fun p _ => rfl
def cmd0 : Cm := ⟨0, 0, 0, 0, 0, ByteArray.empty⟩
/-- the parts -/
abbrev Parts := Int × Int × Int × ByteArray × ByteArray × List Vr × List Int × Cm
def Ms.parts (m : Ms) : Parts := (m.id, m.n, m.ts, m.lo, m.hi, m.vers, m.vec, m.cmd)
def mkMs (k : Int) (p : Parts) : Ms := ⟨k, p.1, p.2.1, p.2.2.1, p.2.2.2.1, p.2.2.2.2.1, p.2.2.2.2.2.1, p.2.2.2.2.2.2.1, p.2.2.2.2.2.2.2⟩
def nzI (n : Int) : Bool := n != 0
def nzS (s : ByteArray) : Bool := s.data.toList.length != 0
def nzL {α : Type} (l : List α) : Bool := l.length != 0
def nzC (c : Cm) : Bool := decide (c ≠ cmd0)
/-- bit i of the mask -/
def bit (mask : Int) (i : Nat) : Bool := (mask / 2 ^ i) % 2 == 1
def verRow (num : Nat → Cd Int) (ahead : Bool) : Cd (List Vr) := rowC (num 2) 4096 (verC num ahead) (fun v => v.ts) 0
def vecRow (num : Nat → Cd Int) : Cd (List Int) := rowC (num 1) 32 (fun _ : Unit => num 8) (fun _ => ()) ()
theorem verRow_law {num : Nat → Cd Int} (h : ∀ w, (num w).Law) (ahead : Bool) : (verRow num ahead).Law := row_law (h 2) 4096 (fun s => ver_law h ahead s) _ _
theorem vecRow_law {num : Nat → Cd Int} (h : ∀ w, (num w).Law) : (vecRow num).Law := row_law (h 1) 32 (fun _ => h 8) _ _
/-- the elder body behind the kind -/
def eldC : Cd Parts := seqC (fixC 8) fun _ => seqC (fixC 8) fun _ => seqC (fixC 8) fun _ => seqC (textC (fixC 1) 16) fun _ => seqC (textC (fixC 1) 16) fun _ => seqC (verRow fixC false) fun _ => seqC (vecRow fixC) fun _ => cmdC fixC
theorem eld_law : eldC.Law := seq_law (fix_law 8) fun _ _ => seq_law (fix_law 8) fun _ _ => seq_law (fix_law 8) fun _ _ => seq_law (text_law (fix_law 1) 16) fun _ _ => seq_law (text_law (fix_law 1) 16) fun _ _ => seq_law (verRow_law fix_law false) fun _ _ => seq_law (vecRow_law fix_law) fun _ _ => cmd_law fix_law
/-- the newer body behind kind and mask -/
def newC (k : Int) : Cd Parts :=
  seqC (optC (bit k 0) 0 nzI uvC) fun _ => seqC (optC (bit k 1) 0 nzI uvC) fun _ => seqC (optC (bit k 2) 0 nzI uvC) fun _ => seqC (optC (bit k 3) ByteArray.empty nzS (textC uvC 16)) fun _ => seqC (optC (bit k 4) ByteArray.empty nzS (textC uvC 16)) fun _ =>
    seqC (optC (bit k 5) [] nzL (verRow (fun _ => uvC) true)) fun _ => seqC (optC (bit k 6) [] nzL (vecRow fun _ => uvC)) fun _ => optC (bit k 7) cmd0 nzC (cmdC fun _ => uvC)
theorem new_law (k : Int) : (newC k).Law :=
  seq_law (opt_law _ _ _ uv_law) fun _ _ => seq_law (opt_law _ _ _ uv_law) fun _ _ => seq_law (opt_law _ _ _ uv_law) fun _ _ => seq_law (opt_law _ _ _ (text_law uv_law 16)) fun _ _ => seq_law (opt_law _ _ _ (text_law uv_law 16)) fun _ _ =>
    seq_law (opt_law _ _ _ (verRow_law (fun _ => uv_law) true)) fun _ _ => seq_law (opt_law _ _ _ (vecRow_law fun _ => uv_law)) fun _ _ => opt_law _ _ _ (cmd_law fun _ => uv_law)
def b2 (b : Bool) : Int := if b then 1 else 0
def maskOf (p : Parts) : Int := b2 (nzI p.1) + 2 * b2 (nzI p.2.1) + 4 * b2 (nzI p.2.2.1) + 8 * b2 (nzS p.2.2.2.1) + 16 * b2 (nzS p.2.2.2.2.1) + 32 * b2 (nzL p.2.2.2.2.2.1) + 64 * b2 (nzL p.2.2.2.2.2.2.1) + 128 * b2 (nzC p.2.2.2.2.2.2.2)
theorem bit_b2 (k : Int) (i : Nat) : b2 (bit k i) = (k / 2 ^ i) % 2 := by
  unfold bit b2
  have h : (k / 2 ^ i) % 2 = 0 ∨ (k / 2 ^ i) % 2 = 1 := by omega
  rcases h with h | h <;> rw [h] <;> rfl
theorem mask_of {k : Int} {p : Parts} (h0 : 0 ≤ k) (h1 : k < 256) (h : (newC k).ok p) : maskOf p = k := by
  obtain ⟨p0, p1, p2, p3, p4, p5, p6, p7⟩ := p
  obtain ⟨q0, q1, q2, q3, q4, q5, q6, q7⟩ := h
  have e0 := opt_nz (zero := 0) (nz := nzI) rfl q0
  have e1 := opt_nz (zero := 0) (nz := nzI) rfl q1
  have e2 := opt_nz (zero := 0) (nz := nzI) rfl q2
  have e3 := opt_nz (zero := ByteArray.empty) (nz := nzS) rfl q3
  have e4 := opt_nz (zero := ByteArray.empty) (nz := nzS) rfl q4
  have e5 := opt_nz (zero := []) (nz := nzL) rfl q5
  have e6 := opt_nz (zero := []) (nz := nzL) rfl q6
  have e7 := opt_nz (zero := cmd0) (nz := nzC) (by simp [nzC]) q7
  show b2 (nzI p0) + 2 * b2 (nzI p1) + 4 * b2 (nzI p2) + 8 * b2 (nzS p3) + 16 * b2 (nzS p4) + 32 * b2 (nzL p5) + 64 * b2 (nzL p6) + 128 * b2 (nzC p7) = k
  simp only at e0 e1 e2 e3 e4 e5 e6 e7
  rw [← e0, ← e1, ← e2, ← e3, ← e4, ← e5, ← e6, ← e7, bit_b2, bit_b2, bit_b2, bit_b2, bit_b2, bit_b2, bit_b2, bit_b2]
  simp only [Int.reducePow, Int.pow_zero, Int.ediv_one]
  omega
def kindC : Cd Int := limC (fixC 1) (fun n => decide (1 ≤ n ∧ n ≤ 26)) 5
theorem kind_law : kindC.Law := lim_law _ _ (fix_law 1)
/-- a message, by a version -/
def msgC (v : Int) : Cd Ms :=
  if v = 1 then isoC (seqC kindC fun _ => eldC) (fun p => mkMs p.1 p.2) (fun m => (m.kind, m.parts))
  else isoC (seqC kindC fun _ => seqC (fixC 1) newC) (fun p => mkMs p.1 p.2.2) (fun m => (m.kind, maskOf m.parts, m.parts))
theorem msg_law (v : Int) : (msgC v).Law := by
  unfold msgC
  split
  · exact iso_law (seq_law kind_law fun _ _ => eld_law) fun p _ => rfl
  · refine iso_law (seq_law kind_law fun _ _ => seq_law (fix_law 1) fun k _ => new_law k) ?_
    rintro ⟨k, mask, p⟩ ⟨_, h1, h2⟩
    show (k, maskOf p, p) = (k, mask, p)
    rw [mask_of h1.1 h1.2 h2]
/-- all of a body -/
def decOf (v : Int) (b : List UInt8) : Except Int Ms := match (msgC v).rd b with
  | .error e => .error e
  | .ok (m, r) => if r.length = 0 then .ok m else .error 3
def encOf (v : Int) (m : Ms) : List UInt8 := (msgC v).enc m
theorem dec_enc {v : Int} {m : Ms} (h : (msgC v).ok m) : decOf v (encOf v m) = .ok m := by
  have := (msg_law v).fwd m [] h
  rw [List.append_nil] at this
  unfold decOf encOf
  rw [this]
  rfl
theorem dec_more {v : Int} {m : Ms} (h : (msgC v).ok m) (x : UInt8) : decOf v (encOf v m ++ [x]) = .error 3 := by
  unfold decOf encOf
  rw [(msg_law v).fwd m [x] h]
  rfl
theorem dec_only {v : Int} {b : List UInt8} {m : Ms} (h : decOf v b = .ok m) : (msgC v).ok m ∧ b = encOf v m := by
  unfold decOf at h
  rcases h1 : (msgC v).rd b with e | ⟨x, r⟩
  · rw [h1] at h; cases h
  · rw [h1] at h
    have h : (if r.length = 0 then Except.ok x else Except.error (3 : Int)) = .ok m := h
    by_cases hr : r.length = 0
    · rw [if_pos hr] at h
      injection h with h
      subst h
      obtain ⟨k1, k2⟩ := (msg_law v).bwd _ _ _ h1
      rw [List.eq_nil_of_length_eq_zero hr, List.append_nil] at k2
      exact ⟨k1, k2⟩
    · rw [if_neg hr] at h; cases h
theorem dec_cut {v : Int} {m : Ms} (h : (msgC v).ok m) {j : Nat} (hj : j < (encOf v m).length) (m' : Ms) : decOf v ((encOf v m).take j) ≠ .ok m' := fun hx => by
  obtain ⟨h1, h2⟩ := dec_only hx
  have h3 := (msg_law v).fwd m' [] h1
  rw [List.append_nil] at h3
  exact (msg_law v).cut h hj m' (by
    have h4 : (encOf v m).take j = (msgC v).enc m' := h2
    show (msgC v).rd ((encOf v m).take j) = _
    rw [h4]
    exact h3)
theorem enc_inj {v : Int} {a b : Ms} (ha : (msgC v).ok a) (hb : (msgC v).ok b) (h : encOf v a = encOf v b) : a = b := (msg_law v).inj ha hb h
end Go.Proofs.Ytkgacehnpdijaaa.Wire
