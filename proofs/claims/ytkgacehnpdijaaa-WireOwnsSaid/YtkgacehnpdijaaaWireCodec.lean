/- Readers and writers that fit one another, and how they are put together. No program in sight. -/
import Derived.Test.YtkgacehnpdijaaaNumFixMath
namespace Go.Proofs.Ytkgacehnpdijaaa.Wire
set_option linter.unusedVariables false
open Num

/-- a reader: what it read and what is left, or the first fault -/
abbrev Rd (α : Type) := List UInt8 → Except Int (α × List UInt8)
structure Cd (α : Type) where
  enc : α → List UInt8
  rd : Rd α
  ok : α → Prop
structure Cd.Law {α : Type} (c : Cd α) : Prop where
  fwd : ∀ a more, c.ok a → c.rd (c.enc a ++ more) = .ok (a, more)
  bwd : ∀ b a more, c.rd b = .ok (a, more) → c.ok a ∧ b = c.enc a ++ more
/-- a body that is cut off is none -/
theorem Cd.Law.cut {α : Type} {c : Cd α} (h : c.Law) {a : α} (ha : c.ok a) {j : Nat} (hj : j < (c.enc a).length) (a' : α) : c.rd ((c.enc a).take j) ≠ .ok (a', []) := fun hx => by
  obtain ⟨h1, h2⟩ := h.bwd _ _ _ hx
  rw [List.append_nil] at h2
  have h3 := h.fwd a' ((c.enc a).drop j) h1
  rw [← h2, List.take_append_drop] at h3
  have h4 := h.fwd a [] ha
  rw [List.append_nil, h3] at h4
  injection h4 with h4
  injection h4 with _ h4
  have : ((c.enc a).drop j).length = 0 := by rw [h4]; rfl
  rw [List.length_drop] at this
  omega
theorem Cd.Law.inj {α : Type} {c : Cd α} (h : c.Law) {a b : α} (ha : c.ok a) (hb : c.ok b) (he : c.enc a = c.enc b) : a = b := by
  have h1 := h.fwd a [] ha
  have h2 := h.fwd b [] hb
  rw [he, h2] at h1
  injection h1 with h1
  injection h1 with h1 _
  exact h1.symm
def pureC {α : Type} (a : α) : Cd α := ⟨fun _ => [], fun b => .ok (a, b), fun x => x = a⟩
theorem pure_law {α : Type} (a : α) : (pureC a).Law := ⟨fun x more h => by show Except.ok (a, _) = _; rw [show x = a from h]; rfl, fun b x more h => by
  have h : Except.ok (a, b) = Except.ok (x, more) := h
  injection h with h
  injection h with h1 h2
  exact ⟨h1.symm, by rw [h2]; rfl⟩⟩
/-- one, and then another that may hang on it -/
def seqC {α β : Type} (c : Cd α) (d : α → Cd β) : Cd (α × β) :=
  ⟨fun p => c.enc p.1 ++ (d p.1).enc p.2,
   fun b => match c.rd b with
     | .error e => .error e
     | .ok (a, r) => match (d a).rd r with
       | .error e => .error e
       | .ok (x, r2) => .ok ((a, x), r2),
   fun p => c.ok p.1 ∧ (d p.1).ok p.2⟩
theorem seq_law {α β : Type} {c : Cd α} {d : α → Cd β} (hc : c.Law) (hd : ∀ a, c.ok a → (d a).Law) : (seqC c d).Law := by
  refine ⟨fun p more h => ?_, fun b p more h => ?_⟩
  · obtain ⟨a, x⟩ := p
    show (match c.rd (c.enc a ++ (d a).enc x ++ more) with | .error e => Except.error e | .ok (a, r) => match (d a).rd r with | .error e => .error e | .ok (x, r2) => .ok ((a, x), r2)) = _
    rw [List.append_assoc, hc.fwd a _ h.1]
    show (match (d a).rd ((d a).enc x ++ more) with | .error e => Except.error e | .ok (x, r2) => .ok ((a, x), r2)) = _
    rw [(hd a h.1).fwd x _ h.2]
  · have h : (match c.rd b with | .error e => Except.error e | .ok (a, r) => match (d a).rd r with | .error e => .error e | .ok (x, r2) => .ok ((a, x), r2)) = .ok (p, more) := h
    rcases h1 : c.rd b with e | ⟨a, r⟩
    · rw [h1] at h; cases h
    · rw [h1] at h
      have h : (match (d a).rd r with | .error e => Except.error e | .ok (x, r2) => .ok ((a, x), r2)) = .ok (p, more) := h
      rcases h2 : (d a).rd r with e | ⟨x, r2⟩
      · rw [h2] at h; cases h
      · rw [h2] at h
        injection h with h
        injection h with h3 h4
        subst h3 h4
        obtain ⟨k1, e1⟩ := hc.bwd _ _ _ h1
        obtain ⟨k2, e2⟩ := (hd a k1).bwd _ _ _ h2
        exact ⟨⟨k1, k2⟩, by show b = c.enc a ++ (d a).enc x ++ r2; rw [e1, e2, List.append_assoc]⟩
/-- what is read must be so -/
def limC {α : Type} (c : Cd α) (p : α → Bool) (e : Int) : Cd α :=
  ⟨c.enc, fun b => match c.rd b with
     | .error e => .error e
     | .ok (a, r) => if p a then .ok (a, r) else .error e,
   fun a => c.ok a ∧ p a = true⟩
theorem lim_law {α : Type} {c : Cd α} (p : α → Bool) (e : Int) (hc : c.Law) : (limC c p e).Law := by
  refine ⟨fun a more h => ?_, fun b a more h => ?_⟩
  · show (match c.rd (c.enc a ++ more) with | .error e => Except.error e | .ok (a, r) => if p a then .ok (a, r) else .error e) = _
    rw [hc.fwd a _ h.1]
    exact if_pos h.2
  · have h : (match c.rd b with | .error e => Except.error e | .ok (a, r) => if p a then .ok (a, r) else .error e) = .ok (a, more) := h
    rcases h1 : c.rd b with e | ⟨x, r⟩
    · rw [h1] at h; cases h
    · rw [h1] at h
      have h : (if p x then Except.ok (x, r) else .error e) = .ok (a, more) := h
      by_cases hp : p x = true
      · rw [if_pos hp] at h
        injection h with h
        injection h with h2 h3
        subst h2 h3
        obtain ⟨k1, k2⟩ := hc.bwd _ _ _ h1
        exact ⟨⟨k1, hp⟩, k2⟩
      · rw [if_neg hp] at h; cases h
/-- the same seen as another type -/
def isoC {α β : Type} (c : Cd α) (f : α → β) (g : β → α) : Cd β :=
  ⟨fun x => c.enc (g x), fun b => match c.rd b with
     | .error e => .error e
     | .ok (a, r) => .ok (f a, r),
   fun x => c.ok (g x) ∧ f (g x) = x⟩
theorem iso_law {α β : Type} {c : Cd α} {f : α → β} {g : β → α} (hc : c.Law) (h1 : ∀ a, c.ok a → g (f a) = a) : (isoC c f g).Law := by
  refine ⟨fun x more h => ?_, fun b x more h => ?_⟩
  · show (match c.rd (c.enc (g x) ++ more) with | .error e => Except.error e | .ok (a, r) => .ok (f a, r)) = _
    rw [hc.fwd (g x) _ h.1]
    show Except.ok (f (g x), more) = _
    rw [h.2]
  · have h : (match c.rd b with | .error e => Except.error e | .ok (a, r) => .ok (f a, r)) = .ok (x, more) := h
    rcases h3 : c.rd b with e | ⟨a, r⟩
    · rw [h3] at h; cases h
    · rw [h3] at h
      injection h with h
      injection h with h4 h5
      subst h4 h5
      obtain ⟨k1, k2⟩ := hc.bwd _ _ _ h3
      have k3 := h1 a k1
      exact ⟨⟨by rw [k3]; exact k1, by rw [k3]⟩, by show b = c.enc (g (f a)) ++ r; rw [k3]; exact k2⟩
/-- bytes, just so many -/
def rdRaw (n : Nat) : Rd ByteArray := fun b => if b.length < n then .error 2 else .ok (⟨(b.take n).toArray⟩, b.drop n)
def rawC (n : Nat) : Cd ByteArray := ⟨fun s => s.data.toList, rdRaw n, fun s => s.data.toList.length = n⟩
theorem raw_law (n : Nat) : (rawC n).Law := by
  refine ⟨fun s more h => ?_, fun b s more h => ?_⟩
  · show rdRaw n (s.data.toList ++ more) = _
    have h : s.data.toList.length = n := h
    unfold rdRaw
    rw [if_neg (by rw [List.length_append]; omega), List.take_left' h, List.drop_left' h]
  · replace h : rdRaw n b = .ok (s, more) := h
    unfold rdRaw at h
    by_cases hl : b.length < n
    · rw [if_pos hl] at h; cases h
    · rw [if_neg hl] at h
      injection h with h
      injection h with h1 h2
      subst h1 h2
      refine ⟨?_, ?_⟩
      · show ((b.take n).toArray.toList).length = n
        simp
        omega
      · show b = (b.take n).toArray.toList ++ b.drop n
        simp
/-- a number of so many bytes -/
theorem tf_inj : ∀ (k : Nat) (a b : List UInt8), a.length = k → b.length = k → tf 0 a = tf 0 b → a = b
  | 0, a, b, ha, hb, _ => by rw [List.eq_nil_of_length_eq_zero ha, List.eq_nil_of_length_eq_zero hb]
  | k + 1, a, b, ha, hb, h => by
    rcases List.eq_nil_or_concat a with rfl | ⟨a', x, rfl⟩
    · simp at ha
    rcases List.eq_nil_or_concat b with rfl | ⟨b', y, rfl⟩
    · simp at hb
    rw [List.concat_eq_append] at ha h ⊢
    rw [List.concat_eq_append] at hb h ⊢
    rw [tf_snoc, tf_snoc] at h
    have hx := x.toNat_lt
    have hy := y.toNat_lt
    have e1 : x.toNat = y.toNat := by omega
    have e2 : tf 0 a' = tf 0 b' := by omega
    rw [tf_inj k a' b' (by simpa using ha) (by simpa using hb) e2, UInt8.toNat_inj.1 e1]
theorem fx_tf {w : Nat} {l : List UInt8} (h : l.length = w) : fx w (tf 0 l) = l := by
  refine tf_inj w _ _ (fx_length _ _) h ?_
  have := tf_lt0 l
  rw [tf_fx, h.symm] 
  rw [Nat.zero_mul, Nat.zero_add, Nat.mod_eq_of_lt this]
def rdFix (w : Nat) : Rd Int := fun b => if b.length < w then .error 2 else .ok ((tf 0 (b.take w) : Nat), b.drop w)
def fixC (w : Nat) : Cd Int := ⟨fun n => fx w n.toNat, rdFix w, fun n => 0 ≤ n ∧ n < ((256 ^ w : Nat) : Int)⟩
theorem fix_law (w : Nat) : (fixC w).Law := by
  refine ⟨fun n more h => ?_, fun b n more h => ?_⟩
  · obtain ⟨m, rfl⟩ : ∃ m : Nat, n = m := ⟨n.toNat, by have := h.1; omega⟩
    have hm : m < 256 ^ w := by have h2 : (m : Int) < ((256 ^ w : Nat) : Int) := h.2; exact Int.ofNat_lt.1 h2
    show rdFix w (fx w m ++ more) = _
    unfold rdFix
    rw [if_neg (by rw [List.length_append, fx_length]; omega), List.take_left' (fx_length _ _), List.drop_left' (fx_length _ _), tf_fx, Nat.zero_mul, Nat.zero_add, Nat.mod_eq_of_lt hm]
  · replace h : rdFix w b = .ok (n, more) := h
    unfold rdFix at h
    by_cases hl : b.length < w
    · rw [if_pos hl] at h; cases h
    · rw [if_neg hl] at h
      injection h with h
      injection h with h1 h2
      subst h1 h2
      have ht : (b.take w).length = w := by rw [List.length_take]; omega
      have hlt := tf_lt0 (b.take w)
      rw [ht] at hlt
      refine ⟨⟨Int.natCast_nonneg _, Int.ofNat_lt.2 hlt⟩, ?_⟩
      show b = fx w (tf 0 (b.take w)) ++ b.drop w
      rw [fx_tf ht, List.take_append_drop]
/-- a short number -/
def rdUv : Rd Int := fun b => if (take b).2.2 = 0 then .ok (((take b).1 : Int), b.drop (take b).2.1) else .error (take b).2.2
def uvC : Cd Int := ⟨fun n => uv n.toNat, rdUv, fun n => 0 ≤ n ∧ n < 18446744073709551616⟩
theorem uv_law : uvC.Law := by
  refine ⟨fun n more h => ?_, fun b n more h => ?_⟩
  · obtain ⟨m, rfl⟩ : ∃ m : Nat, n = m := ⟨n.toNat, by have := h.1; omega⟩
    have hm : m < 18446744073709551616 := by have h2 : (m : Int) < 18446744073709551616 := h.2; omega
    have ht := take_uv hm more
    show rdUv (uv m ++ more) = _
    unfold rdUv
    rw [ht]
    simp
  · replace h : rdUv b = .ok (n, more) := h
    unfold rdUv at h
    obtain ⟨N, k, e, ht⟩ : ∃ N k e, take b = (N, k, e) := ⟨_, _, _, rfl⟩
    rw [ht] at h
    simp only at h
    by_cases he : e = 0
    · subst he
      rw [if_pos rfl] at h
      injection h with h
      injection h with h1 h2
      subst h1 h2
      obtain ⟨k1, k2, k3, k4⟩ := take_only ht
      refine ⟨⟨Int.natCast_nonneg _, by omega⟩, ?_⟩
      show b = uv N ++ b.drop k
      rw [← k1, List.take_append_drop]
    · rw [if_neg he] at h; cases h
/-- n things, each may hang on what was ahead of it -/
def encL {α σ : Type} (c : σ → Cd α) (next : α → σ) : σ → List α → List UInt8
  | _, [] => []
  | s, a :: r => (c s).enc a ++ encL c next (next a) r
def okL {α σ : Type} (c : σ → Cd α) (next : α → σ) : σ → List α → Prop
  | _, [] => True
  | s, a :: r => (c s).ok a ∧ okL c next (next a) r
def rdL {α σ : Type} (c : σ → Cd α) (next : α → σ) : Nat → σ → Rd (List α)
  | 0, _, b => .ok ([], b)
  | n + 1, s, b => match (c s).rd b with
    | .error e => .error e
    | .ok (a, r) => match rdL c next n (next a) r with
      | .error e => .error e
      | .ok (l, r2) => .ok (a :: l, r2)
def listC {α σ : Type} (c : σ → Cd α) (next : α → σ) (n : Nat) (s : σ) : Cd (List α) := ⟨encL c next s, rdL c next n s, fun l => l.length = n ∧ okL c next s l⟩
theorem list_law {α σ : Type} {c : σ → Cd α} {next : α → σ} (hc : ∀ s, (c s).Law) (n : Nat) (s : σ) : (listC c next n s).Law := by
  refine ⟨fun l more h => ?_, fun b l more h => ?_⟩
  · show rdL c next n s (encL c next s l ++ more) = .ok (l, more)
    induction n generalizing s l with
    | zero =>
      obtain rfl : l = [] := List.eq_nil_of_length_eq_zero h.1
      rfl
    | succ n ih =>
      cases l with
      | nil => exact absurd h.1 (by simp)
      | cons a r =>
        have h1 : (c s).ok a := h.2.1
        have h2 := ih (next a) r ⟨by have := h.1; simp at this; exact this, h.2.2⟩
        unfold rdL encL
        rw [List.append_assoc, (hc s).fwd a _ h1]
        show (match rdL c next n (next a) (encL c next (next a) r ++ more) with | .error e => Except.error e | .ok (l, r2) => .ok (a :: l, r2)) = _
        rw [h2]
  · replace h : rdL c next n s b = .ok (l, more) := h
    show (l.length = n ∧ okL c next s l) ∧ b = encL c next s l ++ more
    induction n generalizing s b l with
    | zero =>
      unfold rdL at h
      injection h with h
      injection h with h1 h2
      subst h1 h2
      exact ⟨⟨rfl, trivial⟩, rfl⟩
    | succ n ih =>
      unfold rdL at h
      rcases h1 : (c s).rd b with e | ⟨a, r⟩
      · rw [h1] at h; cases h
      · rw [h1] at h
        have h : (match rdL c next n (next a) r with | .error e => Except.error e | .ok (l, r2) => .ok (a :: l, r2)) = .ok (l, more) := h
        rcases h2 : rdL c next n (next a) r with e | ⟨l2, r2⟩
        · rw [h2] at h; cases h
        · rw [h2] at h
          injection h with h
          injection h with h3 h4
          subst h3 h4
          obtain ⟨k1, e1⟩ := (hc s).bwd _ _ _ h1
          obtain ⟨⟨k2, k3⟩, e2⟩ := ih (next a) r l2 h2
          refine ⟨⟨by rw [List.length_cons, k2], k1, k3⟩, ?_⟩
          show b = (c s).enc a ++ encL c next (next a) l2 ++ r2
          rw [e1, e2, List.append_assoc]
/-- a part that is there just when it is more than nought -/
def optC {α : Type} (there : Bool) (zero : α) (nz : α → Bool) (c : Cd α) : Cd α := if there then limC c nz 3 else pureC zero
theorem opt_law {α : Type} {c : Cd α} (there : Bool) (zero : α) (nz : α → Bool) (hc : c.Law) : (optC there zero nz c).Law := by
  unfold optC
  split
  · exact lim_law nz 3 hc
  · exact pure_law zero
theorem opt_nz {α : Type} {c : Cd α} {there : Bool} {zero : α} {nz : α → Bool} (hz : nz zero = false) {a : α} (h : (optC there zero nz c).ok a) : there = nz a := by
  unfold optC at h
  cases there with
  | true => exact h.2.symm
  | false =>
    have : a = zero := h
    rw [this, hz]
end Go.Proofs.Ytkgacehnpdijaaa.Wire
