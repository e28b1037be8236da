/- The newer body's parts, told or left out; the mask's bits. What Decode answers. No program in sight. No fault of a reader is 0; what is read is in range. No program in sight. The document's reader as a state: what is left, or the first fault. No program in sight. The parts of a message as the document reads them, one by one. No program in sight. The document's loop over the eight parts reads a message as the codec does. No program in sight. -/
import Derived.Test.YtkgacehnpdijaaaWireRdA
import Derived.Test.YtkgacehnpdijaaaWireEq
import Derived.Laws.BitsLemmas
import Derived.Laws.Bits64
namespace Go.Proofs.Ytkgacehnpdijaaa
set_option linter.unusedVariables false
set_option linter.unusedSimpArgs false
open Go.RowKit Wire
section
variable {α : Type} {c : Cd α} {z a : α} {nz : α → Bool} {t : Bool} {b r : List UInt8} {er : Int}
theorem opt_no (h : t = false) : (optC t z nz c).rd b = .ok (z, b) := by subst h; rfl
theorem opt_go (h : t = true) (hc : c.rd b = .ok (a, r)) (hn : nz a = true) : (optC t z nz c).rd b = .ok (a, r) := by
  subst h
  show (limC c nz 3).rd b = _
  simp only [limC, hc, hn, if_true]
theorem opt_zero (h : t = true) (hc : c.rd b = .ok (a, r)) (hn : nz a = false) : (optC t z nz c).rd b = .error 3 := by
  subst h
  show (limC c nz 3).rd b = _
  simp [limC, hc, hn]
theorem opt_err (h : t = true) (hc : c.rd b = .error er) : (optC t z nz c).rd b = .error er := by
  subst h
  show (limC c nz 3).rd b = _
  simp only [limC, hc]
end
abbrev oI (M : Int) (i : Nat) : Cd Int := optC (bit M i) 0 nzI uvC
abbrev oS (M : Int) (i : Nat) : Cd ByteArray := optC (bit M i) ByteArray.empty nzS (textC uvC 16)
abbrev newC7 (M : Int) : Cd Cm := optC (bit M 7) cmd0 nzC (cmdC fun _ => uvC)
abbrev newC6 (M : Int) := seqC (optC (bit M 6) [] nzL (vecRow fun _ => uvC)) fun _ => newC7 M
abbrev newC5 (M : Int) := seqC (optC (bit M 5) [] nzL (verRow (fun _ => uvC) true)) fun _ => newC6 M
abbrev newC4 (M : Int) := seqC (oS M 4) fun _ => newC5 M
abbrev newC3 (M : Int) := seqC (oS M 3) fun _ => newC4 M
abbrev newC2 (M : Int) := seqC (oI M 2) fun _ => newC3 M
abbrev newC1 (M : Int) := seqC (oI M 1) fun _ => newC2 M
theorem newC_0 (M : Int) : newC M = seqC (oI M 0) fun _ => newC1 M := rfl
/-- the newer body behind the kind -/
def newRd (b : List UInt8) : Except Int (Parts × List UInt8) := mapE (fun p => p.2) ((seqC (fixC 1) newC).rd b)
theorem and_one {n : Int} (h : 0 ≤ n) (h1 : n < 256) : bits BinOp.and IntKind.u64 n 1 = n % 2 := by
  have hw : ∀ n : Int, 0 ≤ n → n < 2 ^ 63 → IntKind.u64.wrap n = n := fun n h0 h1 => by rw [IntKind.wrap_u64]; omega
  exact bits_mask .u64 63 (by decide) hw 1 (by decide) n h (by omega)
theorem bit_form {M : Int} (h0 : 0 ≤ M) (h1 : M < 256) (i : Nat) (hi : i < 8) : (bits BinOp.and IntKind.u64 (M / 2 ^ i) 1 == 1) = bit M i := by
  have hd : 0 ≤ M / 2 ^ i ∧ M / 2 ^ i < 256 := by
    obtain rfl | rfl | rfl | rfl | rfl | rfl | rfl | rfl : i = 0 ∨ i = 1 ∨ i = 2 ∨ i = 3 ∨ i = 4 ∨ i = 5 ∨ i = 6 ∨ i = 7 := by omega
    all_goals (simp only [Int.reducePow, Int.pow_zero]; omega)
  rw [and_one hd.1 hd.2]
  rfl
/-- where the reading of the numbers stands -/
def NumSt (M : Int) (x : Except Int (Parts × List UInt8)) (k : Nat) (n1 n2 n3 : Int) (more : List UInt8) : Prop :=
  (k = 0 ∧ n1 = 0 ∧ n2 = 0 ∧ n3 = 0 ∧ x = mapE (fun p => p) ((seqC (oI M 0) fun _ => newC1 M).rd more)) ∨
  (k = 1 ∧ n2 = 0 ∧ n3 = 0 ∧ x = mapE (fun p => (n1, p)) ((newC1 M).rd more)) ∨
  (k = 2 ∧ n3 = 0 ∧ x = mapE (fun p => (n1, n2, p)) ((newC2 M).rd more)) ∨
  (k = 3 ∧ x = mapE (fun p => (n1, n2, n3, p)) ((newC3 M).rd more))
def TxtSt (M : Int) (x : Except Int (Parts × List UInt8)) (n1 n2 n3 : Int) (k : Nat) (s1 s2 : ByteArray) (more : List UInt8) : Prop :=
  (k = 0 ∧ s1 = ByteArray.empty ∧ s2 = ByteArray.empty ∧ x = mapE (fun p => (n1, n2, n3, p)) ((newC3 M).rd more)) ∨
  (k = 1 ∧ s2 = ByteArray.empty ∧ x = mapE (fun p => (n1, n2, n3, s1, p)) ((newC4 M).rd more)) ∨
  (k = 2 ∧ x = mapE (fun p => (n1, n2, n3, s1, s2, p)) ((newC5 M).rd more))
theorem least_or (r : Value) (n most er : Int) (w : World) (h0 : 0 ≤ n) (m0 : 0 ≤ most) (h2 : most ≤ 1073741824) (he : er ≠ 0) : Calls Try.prog 59 #[r, .int .u64 n, .int .i64 most, .int .i64 er] w fun e w' => (most < n ∧ e = gaveUp er ∧ w = w') ∨ (n ≤ most ∧ e = .returned (.int .i64 n) ∧ w = w') := by
  by_cases h : most < n
  · exact (least_bad r n most er w m0 h h2 he).mono fun e w' hh => .inl ⟨h, hh⟩
  · exact (least_ok r n most er w h0 (by omega) h2).mono fun e w' hh => .inr ⟨by omega, hh⟩
theorem RAt.drewN {w : World} {R B : Nat} {b : List UInt8} (h : RAt w R B b) (n : Nat) : RAt (w.drewN n) R B b := h.only (S := fun _ => False) ((Only.refl _ w).drewN n) fun _ hk => hk.elim
end Go.Proofs.Ytkgacehnpdijaaa
namespace Go.Proofs.Ytkgacehnpdijaaa
set_option linter.unusedVariables false
set_option linter.unusedSimpArgs false
open Wire

theorem kind_err {b : List UInt8} {er : Int} (h : (fixC 1).rd b = .error er) : kindC.rd b = .error er := by simp [kindC, limC, h]
theorem kind_bad {b r : List UInt8} {k : Int} (h : (fixC 1).rd b = .ok (k, r)) (hk : k < 1 ∨ 26 < k) : kindC.rd b = .error 5 := by
  have h2 : ¬ (1 ≤ k ∧ k ≤ 26) := by omega
  simp [kindC, limC, h, h2]
theorem kind_go {b r : List UInt8} {k : Int} (h : (fixC 1).rd b = .ok (k, r)) (h0 : ¬ k < 1) (h1 : ¬ 26 < k) : kindC.rd b = .ok (k, r) := by
  have h2 : decide (1 ≤ k ∧ k ≤ 26) = true := decide_eq_true ⟨by omega, by omega⟩
  simp only [kindC, limC, h, h2, if_true]
/-- what is behind a message's body -/
def endOf (x : Except Int (Ms × List UInt8)) : Except Int Ms := match x with
  | .error e => .error e
  | .ok (m, r) => if r.length = 0 then .ok m else .error 3
theorem dec_end (v : Int) (b : List UInt8) : decOf v b = endOf ((msgC v).rd b) := rfl
theorem msg1 (b : List UInt8) : (msgC 1).rd b = mapE (fun p => mkMs p.1 p.2) ((seqC kindC fun _ => eldC).rd b) := iso_rd
theorem msg2 (b : List UInt8) : (msgC 2).rd b = mapE (fun p => mkMs p.1 p.2.2) ((seqC kindC fun _ => seqC (fixC 1) newC).rd b) := iso_rd
/-- the parts behind the kind, by version -/
def partsRd (v : Int) : Rd Parts := if v = 1 then eldC.rd else newRd
theorem msg_kind_err {v : Int} (hv : v = 1 ∨ v = 2) {b : List UInt8} {er : Int} (h : kindC.rd b = .error er) : decOf v b = .error er := by
  rcases hv with rfl | rfl
  · rw [dec_end, msg1, seq_err h]; rfl
  · rw [dec_end, msg2, seq_err h]; rfl
theorem mapE_end {α : Type} {f : α → Ms} {x : Except Int (α × List UInt8)} : endOf (mapE f x) = match x with | .error e => .error e | .ok (p, q) => if q.length = 0 then .ok (f p) else .error 3 := by
  rcases x with e | ⟨p, q⟩ <;> rfl
theorem msg_parts {v : Int} (hv : v = 1 ∨ v = 2) {b r : List UInt8} {k : Int} (h : kindC.rd b = .ok (k, r)) : decOf v b = endOf (mapE (mkMs k) (partsRd v r)) := by
  rcases hv with rfl | rfl
  · rw [dec_end, msg1, seq_ok h]; rfl
  · rw [dec_end, msg2, seq_ok h]
    show _ = endOf (mapE (mkMs k) (mapE (fun p => p.2) ((seqC (fixC 1) newC).rd r)))
    generalize (seqC (fixC 1) newC).rd r = x
    rcases x with e | ⟨p, q⟩ <;> rfl
theorem parts_err {v : Int} (hv : v = 1 ∨ v = 2) {b r : List UInt8} {k er : Int} (h : kindC.rd b = .ok (k, r)) (hp : partsRd v r = .error er) : decOf v b = .error er := by rw [msg_parts hv h, hp]; rfl
theorem parts_ok {v : Int} (hv : v = 1 ∨ v = 2) {b r : List UInt8} {k : Int} {p : Parts} (h : kindC.rd b = .ok (k, r)) (hp : partsRd v r = .ok (p, [])) : decOf v b = .ok (mkMs k p) := by rw [msg_parts hv h, hp]; rfl
theorem parts_more {v : Int} (hv : v = 1 ∨ v = 2) {b r q : List UInt8} {k : Int} {p : Parts} (h : kindC.rd b = .ok (k, r)) (hp : partsRd v r = .ok (p, q)) (hq : q.length ≠ 0) : decOf v b = .error 3 := by
  rw [msg_parts hv h, hp]
  show (if q.length = 0 then Except.ok _ else Except.error (3 : Int)) = _
  rw [if_neg hq]
/-- nothing of a message -/
def ms0 : Ms := mkMs 0 (0, 0, 0, ByteArray.empty, ByteArray.empty, [], [], Wire.cmd0)
/-- the message that is read, or nothing; the fault, or 0 -/
def decM (v : Int) (b : List UInt8) : Ms := if v ≠ 1 ∧ v ≠ 2 then ms0 else match decOf v b with | .ok m => m | .error _ => ms0
def decE (v : Int) (b : List UInt8) : Int := if v ≠ 1 ∧ v ≠ 2 then 15 else match decOf v b with | .ok _ => 0 | .error e => e
theorem dec_other {v : Int} (h : v ≠ 1 ∧ v ≠ 2) (b : List UInt8) : decM v b = ms0 ∧ decE v b = 15 := ⟨if_pos h, if_pos h⟩
theorem dec_bad {v : Int} (h : v = 1 ∨ v = 2) {b : List UInt8} {er : Int} (hd : decOf v b = .error er) : decM v b = ms0 ∧ decE v b = er := by
  have hn : ¬ (v ≠ 1 ∧ v ≠ 2) := by omega
  unfold decM decE
  rw [if_neg hn, if_neg hn, hd]
  exact ⟨rfl, rfl⟩
theorem dec_good {v : Int} (h : v = 1 ∨ v = 2) {b : List UInt8} {m : Ms} (hd : decOf v b = .ok m) : decM v b = m ∧ decE v b = 0 := by
  have hn : ¬ (v ≠ 1 ∧ v ≠ 2) := by omega
  unfold decM decE
  rw [if_neg hn, if_neg hn, hd]
  exact ⟨rfl, rfl⟩
end Go.Proofs.Ytkgacehnpdijaaa
namespace Go.Proofs.Ytkgacehnpdijaaa.Wire
set_option linter.unusedVariables false
set_option linter.unusedSimpArgs false

def NZ {α : Type} (rd : Rd α) : Prop := ∀ b er, rd b = .error er → er ≠ 0
theorem nz_fix (w : Nat) : NZ (fixC w).rd := fun b er h => by
  have h : rdFix w b = .error er := h
  unfold rdFix at h
  split at h
  · injection h with h; omega
  · cases h
theorem nz_uv : NZ uvC.rd := fun b er h => by
  have h : rdUv b = .error er := h
  unfold rdUv at h
  split at h
  · cases h
  · rename_i hn; injection h with h; omega
theorem nz_raw (n : Nat) : NZ (rawC n).rd := fun b er h => by
  have h : rdRaw n b = .error er := h
  unfold rdRaw at h
  split at h
  · injection h with h; omega
  · cases h
theorem nz_lim {α : Type} {c : Cd α} (p : α → Bool) {e : Int} (hc : NZ c.rd) (he : e ≠ 0) : NZ (limC c p e).rd := fun b er h => by
  rcases h1 : c.rd b with x | ⟨a, r⟩
  · have h2 : (limC c p e).rd b = .error x := by simp [limC, h1]
    rw [h2] at h
    injection h with h
    subst h
    exact hc _ _ h1
  · cases hp : p a with
    | true =>
      have h2 : (limC c p e).rd b = .ok (a, r) := by simp [limC, h1, hp]
      rw [h2] at h; cases h
    | false =>
      have h2 : (limC c p e).rd b = .error e := by simp [limC, h1, hp]
      rw [h2] at h
      injection h with h
      subst h
      exact he
theorem nz_iso {α β : Type} {c : Cd α} {f : α → β} {g : β → α} (hc : NZ c.rd) : NZ (isoC c f g).rd := fun b er h => by
  rcases h1 : c.rd b with x | ⟨a, r⟩
  · have h2 : (isoC c f g).rd b = .error x := by simp [isoC, h1]
    rw [h2] at h
    injection h with h
    subst h
    exact hc _ _ h1
  · have h2 : (isoC c f g).rd b = .ok (f a, r) := by simp [isoC, h1]
    rw [h2] at h; cases h
theorem nz_seq {α β : Type} {c : Cd α} {d : α → Cd β} (hc : NZ c.rd) (hd : ∀ a, NZ (d a).rd) : NZ (seqC c d).rd := fun b er h => by
  rcases h1 : c.rd b with x | ⟨a, r⟩
  · have h2 : (seqC c d).rd b = .error x := by simp [seqC, h1]
    rw [h2] at h
    injection h with h
    subst h
    exact hc _ _ h1
  · rcases h3 : (d a).rd r with x | ⟨y, r2⟩
    · have h2 : (seqC c d).rd b = .error x := by simp [seqC, h1, h3]
      rw [h2] at h
      injection h with h
      subst h
      exact hd _ _ _ h3
    · have h2 : (seqC c d).rd b = .ok ((a, y), r2) := by simp [seqC, h1, h3]
      rw [h2] at h; cases h
theorem nz_list {α σ : Type} {c : σ → Cd α} {next : α → σ} (hc : ∀ s, NZ (c s).rd) : ∀ (n : Nat) (s : σ), NZ (rdL c next n s)
  | 0, s => fun b er h => by cases h
  | n + 1, s => fun b er h => by
    rcases h1 : (c s).rd b with x | ⟨a, r⟩
    · have h2 : rdL c next (n + 1) s b = .error x := by simp [rdL, h1]
      rw [h2] at h
      injection h with h
      subst h
      exact hc _ _ _ h1
    · rcases h3 : rdL c next n (next a) r with x | ⟨y, r2⟩
      · have h2 : rdL c next (n + 1) s b = .error x := by simp [rdL, h1, h3]
        rw [h2] at h
        injection h with h
        subst h
        exact nz_list hc n _ _ _ h3
      · have h2 : rdL c next (n + 1) s b = .ok (a :: y, r2) := by simp [rdL, h1, h3]
        rw [h2] at h; cases h
theorem nz_opt {α : Type} {c : Cd α} (t : Bool) (z : α) (nz : α → Bool) (hc : NZ c.rd) : NZ (optC t z nz c).rd := by
  cases t
  · intro b er h; cases h
  · exact nz_lim nz hc (by decide)
theorem nz_most {c : Cd Int} (l : Int) {e : Int} (hc : NZ c.rd) (he : e ≠ 0) : NZ (most c l e).rd := nz_lim _ hc he
theorem nz_text {c : Cd Int} (l : Int) (hc : NZ c.rd) : NZ (textC c l).rd := nz_iso (nz_seq (nz_most l hc (by decide)) fun n => nz_raw _)
theorem nz_stamp {c : Cd Int} (hl : c.Law) (h64 : ∀ n, c.ok n → In64 n) (hc : NZ c.rd) (s : Int) : NZ (stampC c s).rd := fun b er h => by
  rcases h1 : c.rd b with x | ⟨n, r⟩
  · rw [stamp_err h1] at h
    injection h with h
    subst h
    exact hc _ _ h1
  · have hn := h64 n (hl.bwd _ _ _ h1).1
    rw [stamp_ok h1 hn.1 hn.2] at h
    cases h
theorem nz_row {α σ : Type} {n : Cd Int} (l : Int) {c : σ → Cd α} (hn : NZ n.rd) (hc : ∀ s, NZ (c s).rd) (next : α → σ) (s : σ) : NZ (rowC n l c next s).rd := nz_iso (nz_seq (nz_most l hn (by decide)) fun k => nz_list hc _ _)
theorem nz_gone : NZ goneC.rd := nz_iso (nz_most 1 (nz_fix 1) (by decide))
structure NumNZ (num : Nat → Cd Int) : Prop where
  nz : ∀ w, NZ (num w).rd
  law : ∀ w, (num w).Law
  r8 : ∀ n, (num 8).ok n → In64 n
theorem nz_ver {num : Nat → Cd Int} (h : NumNZ num) (ahead : Bool) (s : Int) : NZ (verC num ahead s).rd :=
  nz_iso (nz_seq (nz_text 16 (h.nz 1)) fun _ => nz_seq (nz_text 64 (h.nz 1)) fun _ => nz_seq nz_gone fun _ => nz_seq (nz_stamp (h.law 8) h.r8 (h.nz 8) _) fun _ => nz_seq (nz_most 3 (h.nz 1) (by decide)) fun _ => nz_most 1073741824 (h.nz 4) (by decide))
theorem nz_vers {num : Nat → Cd Int} (h : NumNZ num) (ahead : Bool) : NZ (verRow num ahead).rd := nz_row 4096 (h.nz 2) (fun s => nz_ver h ahead s) _ _
theorem nz_vec {num : Nat → Cd Int} (h : NumNZ num) : NZ (vecRow num).rd := nz_row 32 (h.nz 1) (fun _ => h.nz 8) _ _
theorem nz_cmd {num : Nat → Cd Int} (h : NumNZ num) : NZ (cmdC num).rd :=
  nz_iso (nz_seq (nz_most 255 (h.nz 1) (by decide)) fun _ => nz_seq (nz_most 255 (h.nz 1) (by decide)) fun _ => nz_seq (nz_most 255 (h.nz 1) (by decide)) fun _ => nz_seq (nz_most 255 (h.nz 1) (by decide)) fun _ => nz_seq (nz_most 255 (h.nz 1) (by decide)) fun _ => nz_text 16 (h.nz 1))
theorem nz_nfix : NumNZ fixC := ⟨nz_fix, fix_law, fun n h => (fix_ok.all n).1 h⟩
theorem nz_nuv : NumNZ (fun _ => uvC) := ⟨fun _ => nz_uv, fun _ => uv_law, fun n h => (uv_ok.all n).1 h⟩
theorem nz_eld : NZ eldC.rd := nz_seq (nz_fix 8) fun _ => nz_seq (nz_fix 8) fun _ => nz_seq (nz_fix 8) fun _ => nz_seq (nz_text 16 (nz_fix 1)) fun _ => nz_seq (nz_text 16 (nz_fix 1)) fun _ => nz_seq (nz_vers nz_nfix false) fun _ => nz_seq (nz_vec nz_nfix) fun _ => nz_cmd nz_nfix
theorem nz_new (M : Int) : NZ (newC M).rd := nz_seq (nz_opt _ _ _ nz_uv) fun _ => nz_seq (nz_opt _ _ _ nz_uv) fun _ => nz_seq (nz_opt _ _ _ nz_uv) fun _ => nz_seq (nz_opt _ _ _ (nz_text 16 nz_uv)) fun _ => nz_seq (nz_opt _ _ _ (nz_text 16 nz_uv)) fun _ => nz_seq (nz_opt _ _ _ (nz_vers nz_nuv true)) fun _ => nz_seq (nz_opt _ _ _ (nz_vec nz_nuv)) fun _ => nz_opt _ _ _ (nz_cmd nz_nuv)
theorem nz_kind : NZ kindC.rd := nz_lim _ (nz_fix 1) (by decide)
theorem nz_msg (v : Int) : NZ (msgC v).rd := by
  unfold msgC
  split
  · exact nz_iso (nz_seq nz_kind fun _ => nz_eld)
  · exact nz_iso (nz_seq nz_kind fun _ => nz_seq (nz_fix 1) fun M => nz_new M)
theorem dec_nz {v : Int} {b : List UInt8} {er : Int} (h : decOf v b = .error er) : er ≠ 0 := by
  rw [dec_end] at h
  rcases h1 : (msgC v).rd b with e | ⟨m, r⟩
  · rw [h1] at h
    injection h with h
    subst h
    exact nz_msg v _ _ h1
  · rw [h1] at h
    have h : (if r.length = 0 then Except.ok m else Except.error (3 : Int)) = .error er := h
    by_cases hr : r.length = 0
    · rw [if_pos hr] at h; cases h
    · rw [if_neg hr] at h
      injection h with h
      omega
/-- how a read comes out -/
theorem dec_cases (v : Int) (b : List UInt8) : (decE v b ≠ 0 ∧ decM v b = ms0) ∨ ((v = 1 ∨ v = 2) ∧ decE v b = 0 ∧ decOf v b = .ok (decM v b) ∧ Wire.Good (decM v b) ∧ Rng (decM v b) ∧ b = encOf v (decM v b)) := by
  by_cases hv : v ≠ 1 ∧ v ≠ 2
  · have h := dec_other hv b
    exact .inl ⟨by rw [h.2]; decide, h.1⟩
  have hv : v = 1 ∨ v = 2 := by omega
  rcases hd : decOf v b with er | m
  · have h := dec_bad hv hd
    exact .inl ⟨by rw [h.2]; exact dec_nz hd, h.1⟩
  · have h := dec_good hv hd
    obtain ⟨h1, h2⟩ := dec_only hd
    have h3 := (ok_iff v m).1 h1
    rw [h.1]
    exact .inr ⟨hv, h.2, rfl, h3.1, h3.2, h2⟩
end Go.Proofs.Ytkgacehnpdijaaa.Wire
namespace Go.Proofs.Ytkgacehnpdijaaa.Wire
set_option linter.unusedVariables false
set_option linter.unusedSimpArgs false

abbrev RS := Except Int (List UInt8)
def bindS {α : Type} (s : RS) (rd : Rd α) : Except Int (α × List UInt8) := match s with
  | .error e => .error e
  | .ok b => rd b
/-- the value that is read, or z -/
def rdV {α : Type} (z : α) (rd : Rd α) (s : RS) : α := match bindS s rd with
  | .ok (a, _) => a
  | .error _ => z
/-- what is left behind it -/
def rdS {α : Type} (rd : Rd α) (s : RS) : RS := match bindS s rd with
  | .ok (_, r) => .ok r
  | .error e => .error e
section
variable {α : Type} {z : α} {rd : Rd α} {b r : List UInt8} {er : Int} {a : α} {s : RS}
theorem rdV_bad : rdV z rd (.error er) = z := rfl
theorem rdS_bad : rdS rd (.error er) = .error er := rfl
theorem rdV_err (h : rd b = .error er) : rdV z rd (.ok b) = z := by unfold rdV bindS; simp only [h]
theorem rdS_err (h : rd b = .error er) : rdS rd (.ok b) = .error er := by unfold rdS bindS; simp only [h]
theorem rdV_ok (h : rd b = .ok (a, r)) : rdV z rd (.ok b) = a := by unfold rdV bindS; simp only [h]
theorem rdS_ok (h : rd b = .ok (a, r)) : rdS rd (.ok b) = .ok r := by unfold rdS bindS; simp only [h]
/-- the read came to something, if there is something left -/
theorem rd_of_ok {q : List UInt8} (h : rdS rd (.ok b) = .ok q) (z : α) : rd b = .ok (rdV z rd (.ok b), q) := by
  rcases h1 : rd b with e | ⟨a, r⟩
  · rw [rdS_err h1] at h; cases h
  · rw [rdS_ok h1] at h
    injection h with h
    rw [rdV_ok h1, h]
theorem rd_of_err (h : rdS rd (.ok b) = .error er) : rd b = .error er := by
  rcases h1 : rd b with e | ⟨a, r⟩
  · rw [rdS_err h1] at h; injection h with h; rw [h]
  · rw [rdS_ok h1] at h; cases h
theorem ok_of_ok {q : List UInt8} (h : rdS rd s = .ok q) : ∃ b, s = .ok b := by
  rcases s with e | b
  · rw [rdS_bad] at h; cases h
  · exact ⟨b, rfl⟩
end
/-- a number by a version -/
def numC (v : Int) (w : Nat) : Cd Int := if v = 1 then fixC w else uvC
theorem num_law (v : Int) (w : Nat) : (numC v w).Law := by
  unfold numC
  split
  · exact fix_law w
  · exact uv_law
/-- a limit held against a number that was read -/
def mostV (n l : Int) (s : RS) : Int := match s with | .error _ => 0 | .ok _ => if l < n then 0 else n
def mostS (n l e : Int) (s : RS) : RS := match s with | .error x => .error x | .ok b => if l < n then .error e else .ok b
theorem most_step {c : Cd Int} (hc : c.Law) (h0 : ∀ n, c.ok n → 0 ≤ n) (l e : Int) (s : RS) :
    mostV (rdV 0 c.rd s) l (rdS c.rd s) = rdV 0 (most c l e).rd s ∧ mostS (rdV 0 c.rd s) l e (rdS c.rd s) = rdS (most c l e).rd s := by
  rcases s with x | b
  · exact ⟨rfl, rfl⟩
  rcases h : c.rd b with x | ⟨n, r⟩
  · rw [rdV_err h, rdS_err h, rdV_err (most_err h), rdS_err (most_err h)]
    exact ⟨rfl, rfl⟩
  · rw [rdV_ok h, rdS_ok h]
    by_cases hn : l < n
    · rw [rdV_err (most_long h hn), rdS_err (most_long h hn)]
      exact ⟨if_pos hn, if_pos hn⟩
    · have h2 := most_go (l := l) (e := e) h (h0 n (hc.bwd _ _ _ h).1) (by omega)
      rw [rdV_ok h2, rdS_ok h2]
      exact ⟨if_neg hn, if_neg hn⟩
theorem text_step {c : Cd Int} (hc : c.Law) (h0 : ∀ n, c.ok n → 0 ≤ n) (l : Int) (s : RS) :
    rdV ByteArray.empty (rdRaw (rdV 0 (most c l 6).rd s).toNat) (rdS (most c l 6).rd s) = rdV ByteArray.empty (textC c l).rd s ∧ rdS (rdRaw (rdV 0 (most c l 6).rd s).toNat) (rdS (most c l 6).rd s) = rdS (textC c l).rd s := by
  rcases s with x | b
  · exact ⟨rfl, rfl⟩
  rcases h : c.rd b with x | ⟨n, r⟩
  · rw [rdS_err (most_err h), rdV_err (text_err1 h), rdS_err (text_err1 h)]
    exact ⟨rfl, rfl⟩
  · have hn0 := h0 n (hc.bwd _ _ _ h).1
    by_cases hn : l < n
    · rw [rdS_err (most_long h hn), rdV_err (text_long h hn), rdS_err (text_long h hn)]
      exact ⟨rfl, rfl⟩
    · have h2 := most_go (l := l) (e := 6) h hn0 (by omega)
      have h3 := text_go h hn0 (show n ≤ l by omega)
      rw [rdS_ok h2, rdV_ok h2]
      unfold rdV rdS bindS
      simp only [h3]
      exact ⟨trivial, trivial⟩
theorem num_nn (v : Int) (w : Nat) : ∀ n, (numC v w).ok n → 0 ≤ n := by
  intro n h
  unfold numC at h
  split at h
  · exact h.1
  · exact h.1
theorem num_u64 (v : Int) (w : Nat) (hw : w ≤ 8) : ∀ n, (numC v w).ok n → n < 18446744073709551616 := by
  intro n h
  unfold numC at h
  split at h
  · have h1 : n < ((256 ^ w : Nat) : Int) := h.2
    have : (256 : Nat) ^ w ≤ 256 ^ 8 := Nat.pow_le_pow_right (by decide) hw
    have e : (256 : Nat) ^ 8 = 18446744073709551616 := by decide
    omega
  · exact h.2
/-- a number that was read, or 0 -/
theorem rdV_range {c : Cd Int} (hc : c.Law) {P : Int → Prop} (h0 : P 0) (h : ∀ n, c.ok n → P n) (s : RS) : P (rdV 0 c.rd s) := by
  rcases s with x | b
  · exact h0
  rcases h1 : c.rd b with x | ⟨n, r⟩
  · rw [rdV_err h1]; exact h0
  · rw [rdV_ok h1]; exact h _ (hc.bwd _ _ _ h1).1
end Go.Proofs.Ytkgacehnpdijaaa.Wire
namespace Go.Proofs.Ytkgacehnpdijaaa.Wire
set_option linter.unusedVariables false
set_option linter.unusedSimpArgs false

section
variable {α β γ : Type} {c : Cd α} {d : Cd β} {s : RS} {z : α} {y : β} {q : List UInt8}
theorem seq_e1 {b : List UInt8} {e : Int} (h : c.rd b = .error e) : (seqC c fun _ => d).rd b = .error e := by simp [seqC, h]
theorem seq_e2 {b r : List UInt8} {e : Int} {a : α} (h : c.rd b = .ok (a, r)) (h2 : d.rd r = .error e) : (seqC c fun _ => d).rd b = .error e := by simp [seqC, h, h2]
theorem seq_o {b r r2 : List UInt8} {a : α} {x : β} (h : c.rd b = .ok (a, r)) (h2 : d.rd r = .ok (x, r2)) : (seqC c fun _ => d).rd b = .ok ((a, x), r2) := by simp [seqC, h, h2]
theorem seq_S : rdS (seqC c fun _ => d).rd s = rdS d.rd (rdS c.rd s) := by
  rcases s with e | b
  · rfl
  rcases h : c.rd b with e | ⟨a, r⟩
  · rw [rdS_err h, rdS_err (seq_e1 h)]; rfl
  · rw [rdS_ok h]
    rcases h2 : d.rd r with e | ⟨x, r2⟩
    · rw [rdS_err h2, rdS_err (seq_e2 h h2)]
    · rw [rdS_ok h2, rdS_ok (seq_o h h2)]
theorem seq_V (h : rdS d.rd (rdS c.rd s) = .ok q) : rdV (z, y) (seqC c fun _ => d).rd s = (rdV z c.rd s, rdV y d.rd (rdS c.rd s)) := by
  rcases s with e | b
  · rfl
  obtain ⟨r, hr⟩ := ok_of_ok h
  have h1 := rd_of_ok hr z
  rw [hr] at h ⊢
  have h2 := rd_of_ok h y
  exact rdV_ok (seq_o h1 h2)
theorem iso_S {f : α → γ} {g : γ → α} : rdS (isoC c f g).rd s = rdS c.rd s := by
  rcases s with e | b
  · rfl
  rcases h : c.rd b with e | ⟨a, r⟩
  · have h2 : (isoC c f g).rd b = .error e := by simp [isoC, h]
    rw [rdS_err h, rdS_err h2]
  · have h2 : (isoC c f g).rd b = .ok (f a, r) := by simp [isoC, h]
    rw [rdS_ok h, rdS_ok h2]
theorem iso_V {f : α → γ} {g : γ → α} : rdV (f z) (isoC c f g).rd s = f (rdV z c.rd s) := by
  rcases s with e | b
  · rfl
  rcases h : c.rd b with e | ⟨a, r⟩
  · have h2 : (isoC c f g).rd b = .error e := by simp [isoC, h]
    rw [rdV_err h, rdV_err h2]
  · have h2 : (isoC c f g).rd b = .ok (f a, r) := by simp [isoC, h]
    rw [rdV_ok h, rdV_ok h2]
end
theorem stamp_S {c : Cd Int} (hc : c.Law) (h64 : ∀ n, c.ok n → In64 n) (t : Int) (s : RS) : rdS (stampC c t).rd s = rdS c.rd s := by
  rcases s with e | b
  · rfl
  rcases h : c.rd b with e | ⟨n, r⟩
  · rw [rdS_err h, rdS_err (stamp_err h)]
  · have hn := h64 n (hc.bwd _ _ _ h).1
    rw [rdS_ok h, rdS_ok (stamp_ok h hn.1 hn.2)]
theorem stamp_V {c : Cd Int} (hc : c.Law) (h64 : ∀ n, c.ok n → In64 n) (t : Int) {s : RS} {q : List UInt8} (hq : rdS c.rd s = .ok q) : rdV 0 (stampC c t).rd s = (rdV 0 c.rd s + t) % 18446744073709551616 := by
  obtain ⟨b, rfl⟩ := ok_of_ok hq
  rcases h : c.rd b with e | ⟨n, r⟩
  · rw [rdS_err h] at hq; cases hq
  · have hn := h64 n (hc.bwd _ _ _ h).1
    rw [rdV_ok h, rdV_ok (stamp_ok h hn.1 hn.2)]
theorem num_64 (v : Int) (w : Nat) (hw : w ≤ 8) : ∀ n, (numC v w).ok n → In64 n := fun n h => ⟨num_nn v w n h, num_u64 v w hw n h⟩
/-- is a stamp told from the one ahead? -/
def aheadOf (v : Int) : Bool := v == 2
/-- a version's six parts as they are read -/
structure VerRd (v : Int) (t : Int) (s : RS) where
  s1 : RS
  s2 : RS
  s3 : RS
  s4 : RS
  s5 : RS
  s6 : RS
theorem ver_rd {v t : Int} {b : List UInt8} {s1 s2 s3 s4 s5 s6 : RS} (e1 : rdS (textC (numC v 1) 16).rd (.ok b) = s1) (e2 : rdS (textC (numC v 1) 64).rd s1 = s2) (e3 : rdS (most (fixC 1) 1 3).rd s2 = s3) (e4 : rdS (numC v 8).rd s3 = s4) (e5 : rdS (most (numC v 1) 3 1).rd s4 = s5) (e6 : rdS (most (numC v 4) 1073741824 1).rd s5 = s6)
    {k1 k2 : ByteArray} {g ts dc tx : Int} (f1 : rdV ByteArray.empty (textC (numC v 1) 16).rd (.ok b) = k1) (f2 : rdV ByteArray.empty (textC (numC v 1) 64).rd s1 = k2) (f3 : rdV 0 (most (fixC 1) 1 3).rd s2 = g) (f4 : rdV 0 (numC v 8).rd s3 = ts) (f5 : rdV 0 (most (numC v 1) 3 1).rd s4 = dc) (f6 : rdV 0 (most (numC v 4) 1073741824 1).rd s5 = tx) :
    (∀ er, s6 = .error er → (verC (numC v) (aheadOf v) t).rd b = .error er) ∧
    (∀ q, s6 = .ok q → (verC (numC v) (aheadOf v) t).rd b = .ok (⟨k1, k2, g == 1, (ts + if aheadOf v then t else 0) % 18446744073709551616, dc, tx⟩, q)) := by
  have hS : rdS (verC (numC v) (aheadOf v) t).rd (.ok b) = s6 := by
    unfold verC
    rw [iso_S, seq_S, seq_S, seq_S, seq_S, seq_S, e1, e2]
    rw [show rdS goneC.rd s2 = s3 from (iso_S (c := most (fixC 1) 1 3)).trans e3, stamp_S (num_law v 8) (num_64 v 8 (Nat.le_refl _)), e4, e5, e6]
  refine ⟨fun er he => rd_of_err (hS.trans he), fun q hq => ?_⟩
  have hr := rd_of_ok (hS.trans hq) (⟨ByteArray.empty, ByteArray.empty, (0 : Int) == 1, 0, 0, 0⟩ : Vr)
  rw [hr]
  obtain ⟨q5, h5⟩ := ok_of_ok (e6.trans hq)
  obtain ⟨q4, h4⟩ := ok_of_ok (e5.trans h5)
  obtain ⟨q3, h3⟩ := ok_of_ok (e4.trans h4)
  obtain ⟨q2, h2⟩ := ok_of_ok (e3.trans h3)
  obtain ⟨q1, h1⟩ := ok_of_ok (e2.trans h2)
  have eS4 : rdS (stampC (numC v 8) (if aheadOf v then t else 0)).rd s3 = s4 := (stamp_S (num_law v 8) (num_64 v 8 (Nat.le_refl _)) _ _).trans e4
  have eS3 : rdS goneC.rd s2 = s3 := (iso_S (c := most (fixC 1) 1 3)).trans e3
  have w5 : rdV ((0 : Int), (0 : Int)) (seqC (most (numC v 1) 3 1) fun _ => most (numC v 4) 1073741824 1).rd s4 = (dc, tx) := by
    rw [seq_V (q := q) (by rw [e5, e6, hq]), e5, f5, f6]
  have w4 : rdV ((0 : Int), (0 : Int), (0 : Int)) (seqC (stampC (numC v 8) (if aheadOf v then t else 0)) fun _ => seqC (most (numC v 1) 3 1) fun _ => most (numC v 4) 1073741824 1).rd s3 = ((ts + if aheadOf v then t else 0) % 18446744073709551616, dc, tx) := by
    rw [seq_V (q := q) (by rw [eS4, seq_S, e5, e6, hq]), eS4, w5, stamp_V (num_law v 8) (num_64 v 8 (Nat.le_refl _)) _ (e4.trans h4), f4]
  have w3 : rdV ((0 : Int) == 1, (0 : Int), (0 : Int), (0 : Int)) (seqC goneC fun _ => seqC (stampC (numC v 8) (if aheadOf v then t else 0)) fun _ => seqC (most (numC v 1) 3 1) fun _ => most (numC v 4) 1073741824 1).rd s2 = (g == 1, (ts + if aheadOf v then t else 0) % 18446744073709551616, dc, tx) := by
    rw [seq_V (q := q) (by rw [eS3, seq_S, eS4, seq_S, e5, e6, hq]), eS3, w4]
    rw [show rdV ((0 : Int) == 1) goneC.rd s2 = (rdV 0 (most (fixC 1) 1 3).rd s2 == 1) from iso_V (c := most (fixC 1) 1 3) (z := 0) (f := fun n => n == 1), f3]
  have w2 : rdV (ByteArray.empty, (0 : Int) == 1, (0 : Int), (0 : Int), (0 : Int)) (seqC (textC (numC v 1) 64) fun _ => seqC goneC fun _ => seqC (stampC (numC v 8) (if aheadOf v then t else 0)) fun _ => seqC (most (numC v 1) 3 1) fun _ => most (numC v 4) 1073741824 1).rd s1 = (k2, g == 1, (ts + if aheadOf v then t else 0) % 18446744073709551616, dc, tx) := by
    rw [seq_V (q := q) (by rw [e2, seq_S, eS3, seq_S, eS4, seq_S, e5, e6, hq]), e2, w3, f2]
  have w1 : rdV (ByteArray.empty, ByteArray.empty, (0 : Int) == 1, (0 : Int), (0 : Int), (0 : Int)) (seqC (textC (numC v 1) 16) fun _ => seqC (textC (numC v 1) 64) fun _ => seqC goneC fun _ => seqC (stampC (numC v 8) (if aheadOf v then t else 0)) fun _ => seqC (most (numC v 1) 3 1) fun _ => most (numC v 4) 1073741824 1).rd (.ok b) = (k1, k2, g == 1, (ts + if aheadOf v then t else 0) % 18446744073709551616, dc, tx) := by
    rw [seq_V (q := q) (by rw [e1, seq_S, e2, seq_S, eS3, seq_S, eS4, seq_S, e5, e6, hq]), e1, w2, f1]
  have hv : rdV (⟨ByteArray.empty, ByteArray.empty, (0 : Int) == 1, 0, 0, 0⟩ : Vr) (verC (numC v) (aheadOf v) t).rd (.ok b) = ⟨k1, k2, g == 1, (ts + if aheadOf v then t else 0) % 18446744073709551616, dc, tx⟩ := by
    unfold verC
    refine (iso_V (z := (ByteArray.empty, ByteArray.empty, (0 : Int) == 1, (0 : Int), (0 : Int), (0 : Int)))).trans ?_
    rw [w1]
  rw [hv]
/-- one part is read into the message; is it more than nought? -/
def partStep (v : Int) (i : Nat) (m : Ms) (b : List UInt8) : Except Int ((Ms × Bool) × List UInt8) :=
  match i with
  | 0 => mapE (fun n => ({ m with id := n }, nzI n)) ((numC v 8).rd b)
  | 1 => mapE (fun n => ({ m with n := n }, nzI n)) ((numC v 8).rd b)
  | 2 => mapE (fun n => ({ m with ts := n }, nzI n)) ((numC v 8).rd b)
  | 3 => mapE (fun s => ({ m with lo := s }, nzS s)) ((textC (numC v 1) 16).rd b)
  | 4 => mapE (fun s => ({ m with hi := s }, nzS s)) ((textC (numC v 1) 16).rd b)
  | 5 => mapE (fun l => ({ m with vers := l }, nzL l)) ((verRow (numC v) (aheadOf v)).rd b)
  | 6 => mapE (fun l => ({ m with vec := l }, nzL l)) ((vecRow (numC v)).rd b)
  | _ => mapE (fun c => ({ m with cmd := c }, nzC c)) ((cmdC (numC v)).rd b)
theorem step_keeps {v : Int} {i : Nat} {m m' : Ms} {t : Bool} {b q : List UInt8} (h : partStep v i m b = .ok ((m', t), q)) : (i ≠ 5 → m'.vers = m.vers) ∧ (i < 8 → i ≠ 6 → m'.vec = m.vec) := by
  have key : ∀ {α : Type} {f : α → Ms} {nz : α → Bool} {x : Except Int (α × List UInt8)}, mapE (fun a => (f a, nz a)) x = .ok ((m', t), q) → ∃ a, m' = f a := fun {α f nz x} hx => by
    rcases x with e | ⟨a, r⟩
    · cases hx
    · injection hx with hx
      injection hx with h1 h2
      injection h1 with h1 h3
      exact ⟨a, h1.symm⟩
  match i, h with
  | 0, h => obtain ⟨a, rfl⟩ := key h; exact ⟨fun _ => rfl, fun _ _ => rfl⟩
  | 1, h => obtain ⟨a, rfl⟩ := key h; exact ⟨fun _ => rfl, fun _ _ => rfl⟩
  | 2, h => obtain ⟨a, rfl⟩ := key h; exact ⟨fun _ => rfl, fun _ _ => rfl⟩
  | 3, h => obtain ⟨a, rfl⟩ := key h; exact ⟨fun _ => rfl, fun _ _ => rfl⟩
  | 4, h => obtain ⟨a, rfl⟩ := key h; exact ⟨fun _ => rfl, fun _ _ => rfl⟩
  | 5, h => obtain ⟨a, rfl⟩ := key h; exact ⟨fun h => absurd rfl h, fun _ _ => rfl⟩
  | 6, h => obtain ⟨a, rfl⟩ := key h; exact ⟨fun _ => rfl, fun _ h => absurd rfl h⟩
  | n + 7, h => obtain ⟨a, rfl⟩ := key h; exact ⟨fun _ => rfl, fun _ _ => rfl⟩
end Go.Proofs.Ytkgacehnpdijaaa.Wire
namespace Go.Proofs.Ytkgacehnpdijaaa.Wire
set_option linter.unusedVariables false
set_option linter.unusedSimpArgs false

/-- n rounds from part i on -/
def loopR (v M : Int) : Nat → Nat → Ms → List UInt8 → Except Int (Ms × List UInt8)
  | 0, _, m, b => .ok (m, b)
  | n + 1, i, m, b => if bit M i = true then (match partStep v i m b with
      | .error e => .error e
      | .ok ((m', t), q) => if v = 2 ∧ t = false then .error 3 else loopR v M n (i + 1) m' q) else loopR v M n (i + 1) m b
theorem loop_skip {v M : Int} {n i : Nat} {m : Ms} {b : List UInt8} (h : bit M i = false) : loopR v M (n + 1) i m b = loopR v M n (i + 1) m b := by
  show (if bit M i = true then _ else _) = _
  rw [if_neg (by rw [h]; decide)]
theorem loop_err {v M : Int} {n i : Nat} {m : Ms} {b : List UInt8} {e : Int} (h : bit M i = true) (hp : partStep v i m b = .error e) : loopR v M (n + 1) i m b = .error e := by
  show (if bit M i = true then _ else _) = _
  rw [if_pos h, hp]
theorem loop_go {v M : Int} {n i : Nat} {m m' : Ms} {t : Bool} {b q : List UInt8} (h : bit M i = true) (hp : partStep v i m b = .ok ((m', t), q)) (ht : ¬ (v = 2 ∧ t = false)) : loopR v M (n + 1) i m b = loopR v M n (i + 1) m' q := by
  show (if bit M i = true then _ else _) = _
  rw [if_pos h, hp]
  exact if_neg ht
theorem loop_form {v M : Int} {n i : Nat} {m m' : Ms} {t : Bool} {b q : List UInt8} (h : bit M i = true) (hp : partStep v i m b = .ok ((m', t), q)) (ht : v = 2 ∧ t = false) : loopR v M (n + 1) i m b = .error 3 := by
  show (if bit M i = true then _ else _) = _
  rw [if_pos h, hp]
  exact if_pos ht
section
variable {α β : Type} {c : Cd α} {D : Cd β} {f : α × β → Ms} {g : α → Ms} {st : α → Ms} {nz : α → Bool} {M : Int} {n i : Nat} {m : Ms} {z : α}
/-- elder -/
theorem step1 (hb : bit M i = true) (hp : ∀ b, partStep 1 i m b = mapE (fun x => (st x, nz x)) (c.rd b)) (hn : ∀ x q, loopR 1 M n (i + 1) (st x) q = mapE (fun y => f (x, y)) (D.rd q)) (b : List UInt8) : loopR 1 M (n + 1) i m b = mapE f ((seqC c fun _ => D).rd b) := by
  have hp := hp b
  rcases h : c.rd b with e | ⟨x, q⟩
  · rw [h] at hp
    rw [loop_err hb hp, seq_err h]
  · rw [h] at hp
    rw [loop_go hb hp (fun h => absurd h.1 (by decide)), seq_ok h, hn]
theorem last1 (hb : bit M i = true) (hp : ∀ b, partStep 1 i m b = mapE (fun x => (g x, nz x)) (c.rd b)) (b : List UInt8) : loopR 1 M 1 i m b = mapE g (c.rd b) := by
  have hp := hp b
  rcases h : c.rd b with e | ⟨x, q⟩
  · rw [h] at hp
    rw [loop_err hb hp]
    rfl
  · rw [h] at hp
    rw [loop_go hb hp (fun h => absurd h.1 (by decide))]
    rfl
/-- newer -/
theorem step2 (hz : st z = m) (hp : ∀ b, partStep 2 i m b = mapE (fun x => (st x, nz x)) (c.rd b)) (hn : ∀ x q, loopR 2 M n (i + 1) (st x) q = mapE (fun y => f (x, y)) (D.rd q)) (b : List UInt8) : loopR 2 M (n + 1) i m b = mapE f ((seqC (optC (bit M i) z nz c) fun _ => D).rd b) := by
  have hp := hp b
  rcases hb : bit M i with _ | _
  · rw [loop_skip hb, seq_ok (opt_no rfl), ← hz, hn]
  · rcases h : c.rd b with e | ⟨x, q⟩
    · rw [h] at hp
      rw [loop_err hb hp, seq_err (opt_err rfl h)]
    · rw [h] at hp
      rcases hnz : nz x with _ | _
      · rw [loop_form hb hp ⟨rfl, hnz⟩, seq_err (opt_zero rfl h hnz)]
      · rw [loop_go hb hp (by rw [hnz]; simp), seq_ok (opt_go rfl h hnz), hn]
theorem last2 (hz : g z = m) (hp : ∀ b, partStep 2 i m b = mapE (fun x => (g x, nz x)) (c.rd b)) (b : List UInt8) : loopR 2 M 1 i m b = mapE g ((optC (bit M i) z nz c).rd b) := by
  have hp := hp b
  rcases hb : bit M i with _ | _
  · rw [loop_skip hb, opt_no rfl, ← hz]
    rfl
  · rcases h : c.rd b with e | ⟨x, q⟩
    · rw [h] at hp
      rw [loop_err hb hp, opt_err rfl h]
      rfl
    · rw [h] at hp
      rcases hnz : nz x with _ | _
      · rw [loop_form hb hp ⟨rfl, hnz⟩, opt_zero rfl h hnz]
        rfl
      · rw [loop_go hb hp (by rw [hnz]; simp), opt_go rfl h hnz]
        rfl
end
theorem num1 : numC 1 = fixC := by funext w; exact if_pos rfl
theorem num2 : numC 2 = fun _ => uvC := by funext w; exact if_neg (by decide)
theorem loop1 (kd : Int) (b : List UInt8) : loopR 1 255 8 0 (mkMs kd (0, 0, 0, ByteArray.empty, ByteArray.empty, [], [], cmd0)) b = mapE (mkMs kd) (eldC.rd b) := by
  have b8 : ∀ i, i < 8 → bit 255 i = true := by decide
  refine step1 (st := fun x => mkMs kd (x, 0, 0, ByteArray.empty, ByteArray.empty, [], [], cmd0)) (b8 0 (by omega)) (fun b => by show mapE _ ((numC 1 8).rd b) = _; rw [num1]; rfl) (fun x0 b => ?_) b
  refine step1 (f := fun y => mkMs kd (x0, y)) (st := fun x => mkMs kd (x0, x, 0, ByteArray.empty, ByteArray.empty, [], [], cmd0)) (b8 1 (by omega)) (fun b => by show mapE _ ((numC 1 8).rd b) = _; rw [num1]; rfl) (fun x1 b => ?_) b
  refine step1 (f := fun y => mkMs kd (x0, x1, y)) (st := fun x => mkMs kd (x0, x1, x, ByteArray.empty, ByteArray.empty, [], [], cmd0)) (b8 2 (by omega)) (fun b => by show mapE _ ((numC 1 8).rd b) = _; rw [num1]; rfl) (fun x2 b => ?_) b
  refine step1 (f := fun y => mkMs kd (x0, x1, x2, y)) (st := fun x => mkMs kd (x0, x1, x2, x, ByteArray.empty, [], [], cmd0)) (b8 3 (by omega)) (fun b => by show mapE _ ((textC (numC 1 1) 16).rd b) = _; rw [num1]; rfl) (fun x3 b => ?_) b
  refine step1 (f := fun y => mkMs kd (x0, x1, x2, x3, y)) (st := fun x => mkMs kd (x0, x1, x2, x3, x, [], [], cmd0)) (b8 4 (by omega)) (fun b => by show mapE _ ((textC (numC 1 1) 16).rd b) = _; rw [num1]; rfl) (fun x4 b => ?_) b
  refine step1 (f := fun y => mkMs kd (x0, x1, x2, x3, x4, y)) (st := fun x => mkMs kd (x0, x1, x2, x3, x4, x, [], cmd0)) (b8 5 (by omega)) (fun b => by show mapE _ ((verRow (numC 1) (aheadOf 1)).rd b) = _; rw [num1]; rfl) (fun x5 b => ?_) b
  refine step1 (f := fun y => mkMs kd (x0, x1, x2, x3, x4, x5, y)) (st := fun x => mkMs kd (x0, x1, x2, x3, x4, x5, x, cmd0)) (b8 6 (by omega)) (fun b => by show mapE _ ((vecRow (numC 1)).rd b) = _; rw [num1]; rfl) (fun x6 b => ?_) b
  exact last1 (g := fun x => mkMs kd (x0, x1, x2, x3, x4, x5, x6, x)) (b8 7 (by omega)) (fun b => by show mapE _ ((cmdC (numC 1)).rd b) = _; rw [num1]; rfl) b
theorem loop2 (kd M : Int) (b : List UInt8) : loopR 2 M 8 0 (mkMs kd (0, 0, 0, ByteArray.empty, ByteArray.empty, [], [], cmd0)) b = mapE (mkMs kd) ((newC M).rd b) := by
  refine step2 (st := fun x => mkMs kd (x, 0, 0, ByteArray.empty, ByteArray.empty, [], [], cmd0)) rfl (fun b => by show mapE _ ((numC 2 8).rd b) = _; rw [num2]; rfl) (fun x0 b => ?_) b
  refine step2 (f := fun y => mkMs kd (x0, y)) (st := fun x => mkMs kd (x0, x, 0, ByteArray.empty, ByteArray.empty, [], [], cmd0)) rfl (fun b => by show mapE _ ((numC 2 8).rd b) = _; rw [num2]; rfl) (fun x1 b => ?_) b
  refine step2 (f := fun y => mkMs kd (x0, x1, y)) (st := fun x => mkMs kd (x0, x1, x, ByteArray.empty, ByteArray.empty, [], [], cmd0)) rfl (fun b => by show mapE _ ((numC 2 8).rd b) = _; rw [num2]; rfl) (fun x2 b => ?_) b
  refine step2 (f := fun y => mkMs kd (x0, x1, x2, y)) (st := fun x => mkMs kd (x0, x1, x2, x, ByteArray.empty, [], [], cmd0)) rfl (fun b => by show mapE _ ((textC (numC 2 1) 16).rd b) = _; rw [num2]; rfl) (fun x3 b => ?_) b
  refine step2 (f := fun y => mkMs kd (x0, x1, x2, x3, y)) (st := fun x => mkMs kd (x0, x1, x2, x3, x, [], [], cmd0)) rfl (fun b => by show mapE _ ((textC (numC 2 1) 16).rd b) = _; rw [num2]; rfl) (fun x4 b => ?_) b
  refine step2 (f := fun y => mkMs kd (x0, x1, x2, x3, x4, y)) (st := fun x => mkMs kd (x0, x1, x2, x3, x4, x, [], cmd0)) rfl (fun b => by show mapE _ ((verRow (numC 2) (aheadOf 2)).rd b) = _; rw [num2]; rfl) (fun x5 b => ?_) b
  refine step2 (f := fun y => mkMs kd (x0, x1, x2, x3, x4, x5, y)) (st := fun x => mkMs kd (x0, x1, x2, x3, x4, x5, x, cmd0)) rfl (fun b => by show mapE _ ((vecRow (numC 2)).rd b) = _; rw [num2]; rfl) (fun x6 b => ?_) b
  exact last2 (g := fun x => mkMs kd (x0, x1, x2, x3, x4, x5, x6, x)) rfl (fun b => by show mapE _ ((cmdC (numC 2)).rd b) = _; rw [num2]; rfl) b
/-- the whole: a message and what is behind it -/
theorem all1 {b r : List UInt8} {k : Int} (h : kindC.rd b = .ok (k, r)) : decOf 1 b = endOf (loopR 1 255 8 0 (mkMs k (0, 0, 0, ByteArray.empty, ByteArray.empty, [], [], cmd0)) r) := by
  rw [msg_parts (.inl rfl) h, loop1]
  rfl
theorem all2 {b r r2 : List UInt8} {k M : Int} (h : kindC.rd b = .ok (k, r)) (h2 : (fixC 1).rd r = .ok (M, r2)) : decOf 2 b = endOf (loopR 2 M 8 0 (mkMs k (0, 0, 0, ByteArray.empty, ByteArray.empty, [], [], cmd0)) r2) := by
  rw [msg_parts (.inr rfl) h, loop2]
  show endOf (mapE (mkMs k) (newRd r)) = _
  unfold newRd
  rw [seq_ok h2]
  generalize (newC M).rd r2 = x
  rcases x with e | ⟨p, q⟩ <;> rfl
theorem all2e {b r : List UInt8} {k er : Int} (h : kindC.rd b = .ok (k, r)) (h2 : (fixC 1).rd r = .error er) : decOf 2 b = .error er := by
  refine parts_err (.inr rfl) h ?_
  show newRd r = _
  unfold newRd
  rw [seq_err h2]
theorem bit_next {M Y : Int} {k : Nat} (h : Y = M / 2 ^ k) : Y / 2 = M / 2 ^ (k + 1) := by
  have hp : (0 : Int) < 2 ^ k := Int.pow_pos (by decide)
  rw [h, Int.ediv_ediv_of_nonneg (Int.le_of_lt hp), Int.pow_succ]
theorem bit_is {M Y : Int} {k : Nat} (h : Y = M / 2 ^ k) : (Y % 2 == 1) = bit M k := by rw [h]; rfl
theorem bit_range {M Y : Int} {k : Nat} (h : Y = M / 2 ^ k) (h0 : 0 ≤ M) (h1 : M < 256) : 0 ≤ Y ∧ Y < 256 := by
  have hp : (0 : Int) < 2 ^ k := Int.pow_pos (by decide)
  rw [h]
  exact ⟨Int.ediv_nonneg h0 (Int.le_of_lt hp), Int.lt_of_le_of_lt (Int.ediv_le_self _ h0) h1⟩
end Go.Proofs.Ytkgacehnpdijaaa.Wire
