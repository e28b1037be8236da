/- Vectors of times, in plain words. No program in sight. -/
import GoSem.Core.Value
namespace Go.Proofs.Ytmogoockhlfabaa.Vec
set_option linter.unusedVariables false

/-- an epoch, who is a member, and the times; places 0 to 3 count -/
structure V where
  ep : Int
  h : Nat → Bool
  t : Nat → Int

def cells (v : V) : Array Value := #[.int .i64 v.ep, .bool (v.h 0), .bool (v.h 1), .bool (v.h 2), .bool (v.h 3), .int .u64 (v.t 0), .int .u64 (v.t 1), .int .u64 (v.t 2), .int .u64 (v.t 3)]
abbrev val (v : V) : Value := .agg (cells v)
def hasCells (h : Nat → Bool) : Array Value := #[.bool (h 0), .bool (h 1), .bool (h 2), .bool (h 3)]
def timeCells (t : Nat → Int) : Array Value := #[.int .u64 (t 0), .int .u64 (t 1), .int .u64 (t 2), .int .u64 (t 3)]
def zero : V := { ep := 0, h := fun _ => false, t := fun _ => 0 }
theorem four {p : Nat → Prop} (h0 : p 0) (h1 : p 1) (h2 : p 2) (h3 : p 3) : ∀ i, i < 4 → p i := by
  intro i hi
  have h4 : i = 0 ∨ i = 1 ∨ i = 2 ∨ i = 3 := by omega
  rcases h4 with rfl | rfl | rfl | rfl <;> assumption
theorem cells_ext {v u : V} (he : v.ep = u.ep) (hh : ∀ i, i < 4 → v.h i = u.h i) (ht : ∀ i, i < 4 → v.t i = u.t i) : cells v = cells u := by
  unfold cells
  rw [he, hh 0 (by omega), hh 1 (by omega), hh 2 (by omega), hh 3 (by omega), ht 0 (by omega), ht 1 (by omega), ht 2 (by omega), ht 3 (by omega)]
theorem cells_size (v : V) : (cells v).size = 9 := rfl
theorem cells_has (v : V) {k : Nat} (hk : k < 4) : (cells v)[1 + k]? = some (.bool (v.h k)) := by
  have h4 : k = 0 ∨ k = 1 ∨ k = 2 ∨ k = 3 := by omega
  rcases h4 with rfl | rfl | rfl | rfl <;> rfl
theorem cells_time (v : V) {k : Nat} (hk : k < 4) : (cells v)[5 + k]? = some (.int .u64 (v.t k)) := by
  have h4 : k = 0 ∨ k = 1 ∨ k = 2 ∨ k = 3 := by omega
  rcases h4 with rfl | rfl | rfl | rfl <;> rfl
def setT (v : V) (k : Nat) (x : Int) : V := { v with t := fun i => if i = k then x else v.t i }
def setH (v : V) (k : Nat) (b : Bool) : V := { v with h := fun i => if i = k then b else v.h i }
theorem cells_setT (v : V) {k : Nat} (x : Int) (hk : k < 4) : (cells v).setIfInBounds (5 + k) (.int .u64 x) = cells (setT v k x) := by
  have h4 : k = 0 ∨ k = 1 ∨ k = 2 ∨ k = 3 := by omega
  rcases h4 with rfl | rfl | rfl | rfl <;> simp [cells, setT]
theorem cells_setH (v : V) {k : Nat} (b : Bool) (hk : k < 4) : (cells v).setIfInBounds (1 + k) (.bool b) = cells (setH v k b) := by
  have h4 : k = 0 ∨ k = 1 ∨ k = 2 ∨ k = 3 := by omega
  rcases h4 with rfl | rfl | rfl | rfl <;> simp [cells, setH]

/-! ### plain -/
/-- the first k places made plain -/
def plainTo (k : Nat) (v : V) : V := { v with t := fun i => if i < k ∧ v.h i = false then 0 else v.t i }
def plain (v : V) : V := plainTo 4 v
theorem plainTo_zero (v : V) : plainTo 0 v = v := by
  unfold plainTo
  simp
theorem cells_plainTo_on {k : Nat} {v : V} (h : v.h k = true) : cells (plainTo (k + 1) v) = cells (plainTo k v) := by
  refine cells_ext rfl (fun _ _ => rfl) fun i _ => ?_
  simp only [plainTo]
  by_cases hi : i = k
  · subst hi; simp [h]
  · have : i < k + 1 ↔ i < k := by omega
    simp only [this]
theorem cells_plainTo_off {k : Nat} {v : V} (h : v.h k = false) (hk : k < 4) : cells (plainTo (k + 1) v) = (cells (plainTo k v)).setIfInBounds (5 + k) (.int .u64 0) := by
  rw [cells_setT _ _ hk]
  refine cells_ext rfl (fun _ _ => rfl) fun i _ => ?_
  simp only [plainTo, setT]
  by_cases hi : i = k
  · subst hi; simp [h]
  · have : i < k + 1 ↔ i < k := by omega
    simp only [this, if_neg hi]
theorem plain_t (v : V) {i : Nat} (hi : i < 4) : (plain v).t i = if v.h i then v.t i else 0 := by
  simp only [plain, plainTo]
  cases h : v.h i <;> simp [hi]
theorem plain_h (v : V) : (plain v).h = v.h := rfl
theorem plain_ep (v : V) : (plain v).ep = v.ep := rfl
/-- the document's way: noughts, then the members' times -/
def refPlainTo (k : Nat) (v : V) : V := { v with t := fun i => if i < k ∧ v.h i = true then v.t i else 0 }
theorem cells_refPlainTo_on {k : Nat} {v : V} (h : v.h k = true) (hk : k < 4) : cells (refPlainTo (k + 1) v) = (cells (refPlainTo k v)).setIfInBounds (5 + k) (.int .u64 (v.t k)) := by
  rw [cells_setT _ _ hk]
  refine cells_ext rfl (fun _ _ => rfl) fun i _ => ?_
  simp only [refPlainTo, setT]
  by_cases hi : i = k
  · subst hi; simp [h]
  · have : i < k + 1 ↔ i < k := by omega
    simp only [this, if_neg hi]
theorem cells_refPlainTo_off {k : Nat} {v : V} (h : v.h k = false) : cells (refPlainTo (k + 1) v) = cells (refPlainTo k v) := by
  refine cells_ext rfl (fun _ _ => rfl) fun i _ => ?_
  simp only [refPlainTo]
  by_cases hi : i = k
  · subst hi; simp [h]
  · have : i < k + 1 ↔ i < k := by omega
    simp only [this]
theorem cells_refPlain (v : V) : cells (refPlainTo 4 v) = cells (plain v) := by
  refine cells_ext rfl (fun _ _ => rfl) fun i hi => ?_
  rw [plain_t v hi]
  simp only [refPlainTo]
  cases h : v.h i <;> simp [hi]

/-! ### least -/
def leastTo : Nat → V → Int × Bool
  | 0, _ => (0, false)
  | k + 1, v => if v.h k = true ∧ ((leastTo k v).2 = false ∨ v.t k < (leastTo k v).1) then (v.t k, true) else leastTo k v
theorem leastTo_succ (k : Nat) (v : V) : leastTo (k + 1) v = if v.h k = true ∧ ((leastTo k v).2 = false ∨ v.t k < (leastTo k v).1) then (v.t k, true) else leastTo k v := rfl
def least (v : V) : Int × Bool := leastTo 4 v
theorem leastTo_spec : ∀ (k : Nat) (v : V), ((leastTo k v).2 = true → (∃ i, i < k ∧ v.h i = true ∧ (leastTo k v).1 = v.t i) ∧ ∀ i, i < k → v.h i = true → (leastTo k v).1 ≤ v.t i) ∧
    ((leastTo k v).2 = false → (leastTo k v).1 = 0 ∧ ∀ i, i < k → v.h i = false)
  | 0, v => by simp [leastTo]
  | k + 1, v => by
    obtain ⟨h1, h2⟩ := leastTo_spec k v
    rw [leastTo]
    by_cases c : v.h k = true ∧ ((leastTo k v).2 = false ∨ v.t k < (leastTo k v).1)
    · rw [if_pos c]
      refine ⟨fun _ => ⟨⟨k, by omega, c.1, rfl⟩, fun i hi hm => ?_⟩, fun h => by simp at h⟩
      by_cases e : i = k
      · subst e; exact Int.le_refl _
      · rcases c.2 with hf | hl
        · rw [(h2 hf).2 i (by omega)] at hm; simp at hm
        · by_cases ht : (leastTo k v).2 = true
          · have := (h1 ht).2 i (by omega) hm
            show v.t k ≤ v.t i
            omega
          · rw [(h2 (by simpa using ht)).2 i (by omega)] at hm; simp at hm
    · rw [if_neg c]
      refine ⟨fun h => ?_, fun h => ?_⟩
      · obtain ⟨⟨i, hi, hm, he⟩, hmin⟩ := h1 h
        refine ⟨⟨i, by omega, hm, he⟩, fun j hj hmj => ?_⟩
        by_cases e : j = k
        · subst e
          apply Classical.byContradiction
          intro hn
          exact c ⟨hmj, .inr (by omega)⟩
        · exact hmin j (by omega) hmj
      · obtain ⟨he, hmin⟩ := h2 h
        refine ⟨he, fun j hj => ?_⟩
        by_cases e : j = k
        · subst e
          cases hj : v.h j with
          | false => rfl
          | true => exact absurd ⟨hj, .inl h⟩ c
        · exact hmin j (by omega)
/-- what 'least' is: the one least time of the members, or nothing -/
theorem least_eq {v : V} {m : Int} (hm : ∃ i, i < 4 ∧ v.h i = true ∧ m = v.t i) (hmin : ∀ i, i < 4 → v.h i = true → m ≤ v.t i) : least v = (m, true) := by
  obtain ⟨h1, h2⟩ := leastTo_spec 4 v
  obtain ⟨i, hi, hh, he⟩ := hm
  unfold least
  cases hb : (leastTo 4 v).2 with
  | false => rw [(h2 hb).2 i hi] at hh; simp at hh
  | true =>
    obtain ⟨⟨j, hj, hhj, hej⟩, hmj⟩ := h1 hb
    have a1 := hmj i hi hh
    have a2 := hmin j hj hhj
    exact Prod.ext (by show _ = m; omega) hb
theorem least_none {v : V} (h : ∀ i, i < 4 → v.h i = false) : least v = (0, false) := by
  obtain ⟨h1, h2⟩ := leastTo_spec 4 v
  unfold least
  cases hb : (leastTo 4 v).2 with
  | false => exact Prod.ext (h2 hb).1 hb
  | true =>
    obtain ⟨⟨j, hj, hhj, _⟩, _⟩ := h1 hb
    rw [h j hj] at hhj; simp at hhj
theorem least_cells {v u : V} (h : cells v = cells u) : least v = least u := by
  simp only [cells, Array.mk.injEq, List.cons.injEq, Value.int.injEq, Value.bool.injEq, true_and, and_true] at h
  obtain ⟨_, h0, h1, h2, h3, t0, t1, t2, t3⟩ := h
  simp [least, leastTo, h0, h1, h2, h3, t0, t1, t2, t3]
/-- the document's look at a member: is it the least? -/
def isLeast (v : V) (i : Nat) : Nat → Bool
  | 0 => v.h i
  | k + 1 => isLeast v i k && (!v.h k || decide (v.t i ≤ v.t k))
theorem isLeast_spec (v : V) (i : Nat) : ∀ k, isLeast v i k = true ↔ v.h i = true ∧ ∀ j, j < k → v.h j = true → v.t i ≤ v.t j
  | 0 => by simp [isLeast]
  | k + 1 => by
    rw [isLeast, Bool.and_eq_true, isLeast_spec v i k, Bool.or_eq_true, decide_eq_true_iff]
    constructor
    · rintro ⟨⟨h1, h2⟩, h3⟩
      refine ⟨h1, fun j hj hm => ?_⟩
      by_cases e : j = k
      · subst e
        rcases h3 with h | h
        · rw [hm] at h; simp at h
        · exact h
      · exact h2 j (by omega) hm
    · rintro ⟨h1, h2⟩
      refine ⟨⟨h1, fun j hj hm => h2 j (by omega) hm⟩, ?_⟩
      cases hk : v.h k with
      | false => simp
      | true => exact .inr (h2 k (by omega) hk)
theorem least_of_isLeast {v : V} {i : Nat} (hi : i < 4) (h : isLeast v i 4 = true) : least v = (v.t i, true) := by
  obtain ⟨h1, h2⟩ := (isLeast_spec v i 4).1 h
  exact least_eq ⟨i, hi, h1, rfl⟩ h2
theorem least_of_none {v : V} (h : ∀ i, i < 4 → isLeast v i 4 = false) : least v = (0, false) := by
  refine least_none fun i hi => ?_
  cases hm : v.h i with
  | false => rfl
  | true =>
    obtain ⟨h1, h2⟩ := leastTo_spec 4 v
    cases hb : (leastTo 4 v).2 with
    | false => rw [(h2 hb).2 i hi] at hm; simp at hm
    | true =>
      obtain ⟨⟨j, hj, hhj, hej⟩, hmin⟩ := h1 hb
      have := (isLeast_spec v j 4).2 ⟨hhj, fun q hq hmq => by rw [← hej]; exact hmin q hq hmq⟩
      rw [h j hj] at this; simp at this

/-! ### raise -/
def raise (v : V) (dc t : Int) : V := if 0 ≤ dc ∧ dc < 4 ∧ v.h dc.toNat = true then setT (plain v) dc.toNat (max ((plain v).t dc.toNat) t) else plain v
def refRaiseTo (k : Nat) (v : V) (dc t : Int) : V := { plain v with t := fun i => if i < k ∧ (i : Int) = dc ∧ v.h i = true then max ((plain v).t i) t else (plain v).t i }
theorem refRaiseTo_zero (v : V) (dc t : Int) : refRaiseTo 0 v dc t = plain v := by
  unfold refRaiseTo
  simp
theorem cells_refRaiseTo_on {k : Nat} {v : V} {dc t : Int} (hk : k < 4) (hd : (k : Int) = dc) (hh : v.h k = true) (hl : (plain v).t k < t) :
    cells (refRaiseTo (k + 1) v dc t) = (cells (refRaiseTo k v dc t)).setIfInBounds (5 + k) (.int .u64 t) := by
  rw [cells_setT _ _ hk]
  refine cells_ext rfl (fun _ _ => rfl) fun i _ => ?_
  simp only [refRaiseTo, setT]
  by_cases hi : i = k
  · subst hi
    rw [if_pos ⟨by omega, hd, hh⟩, if_pos rfl]
    omega
  · have : i < k + 1 ↔ i < k := by omega
    simp only [this, if_neg hi]
theorem cells_refRaiseTo_off {k : Nat} {v : V} {dc t : Int} (hn : (k : Int) = dc → v.h k = true → t ≤ (plain v).t k) :
    cells (refRaiseTo (k + 1) v dc t) = cells (refRaiseTo k v dc t) := by
  refine cells_ext rfl (fun _ _ => rfl) fun i _ => ?_
  simp only [refRaiseTo]
  by_cases hi : i = k
  · subst hi
    by_cases c : (i : Int) = dc ∧ v.h i = true
    · rw [if_pos ⟨by omega, c⟩, if_neg (by omega)]
      have := hn c.1 c.2
      omega
    · rw [if_neg (fun x => c x.2), if_neg (fun x => c x.2)]
  · have : i < k + 1 ↔ i < k := by omega
    simp only [this]
theorem cells_refRaise (v : V) (dc t : Int) : cells (refRaiseTo 4 v dc t) = cells (raise v dc t) := by
  unfold raise
  by_cases c : 0 ≤ dc ∧ dc < 4 ∧ v.h dc.toNat = true
  · rw [if_pos c]
    obtain ⟨d, rfl⟩ := Int.eq_ofNat_of_zero_le c.1
    rw [Int.toNat_natCast] at c ⊢
    refine cells_ext rfl (fun _ _ => rfl) fun i hi => ?_
    simp only [refRaiseTo, setT]
    by_cases e : i = d
    · subst e; rw [if_pos ⟨hi, rfl, c.2.2⟩, if_pos rfl]
    · rw [if_neg (by omega), if_neg e]
  · rw [if_neg c]
    refine cells_ext rfl (fun _ _ => rfl) fun i hi => ?_
    simp only [refRaiseTo]
    rw [if_neg]
    rintro ⟨_, rfl, hh⟩
    exact c ⟨by omega, by omega, by rw [Int.toNat_natCast]; exact hh⟩

/-! ### resize -/
def resized (v : V) (ep : Int) (has : Nat → Bool) : V := plain { plain v with ep := ep, h := has }
def refResizeTo (k : Nat) (v : V) (ep : Int) (has : Nat → Bool) : V := { ep := ep, h := has, t := fun i => if i < k ∧ has i = true ∧ v.h i = true then v.t i else 0 }
theorem cells_refResizeTo_on {k : Nat} {v : V} {ep : Int} {has : Nat → Bool} (hk : k < 4) (h1 : has k = true) (h2 : v.h k = true) :
    cells (refResizeTo (k + 1) v ep has) = (cells (refResizeTo k v ep has)).setIfInBounds (5 + k) (.int .u64 (v.t k)) := by
  rw [cells_setT _ _ hk]
  refine cells_ext rfl (fun _ _ => rfl) fun i _ => ?_
  simp only [refResizeTo, setT]
  by_cases hi : i = k
  · subst hi; rw [if_pos ⟨by omega, h1, h2⟩, if_pos rfl]
  · have : i < k + 1 ↔ i < k := by omega
    simp only [this, if_neg hi]
theorem cells_refResizeTo_off {k : Nat} {v : V} {ep : Int} {has : Nat → Bool} (h : ¬ (has k = true ∧ v.h k = true)) : cells (refResizeTo (k + 1) v ep has) = cells (refResizeTo k v ep has) := by
  refine cells_ext rfl (fun _ _ => rfl) fun i _ => ?_
  simp only [refResizeTo]
  by_cases hi : i = k
  · subst hi; rw [if_neg (fun x => h x.2), if_neg (by omega)]
  · have : i < k + 1 ↔ i < k := by omega
    simp only [this]
theorem cells_refResize (v : V) (ep : Int) (has : Nat → Bool) : cells (refResizeTo 4 v ep has) = cells (resized v ep has) := by
  refine cells_ext rfl (fun _ _ => rfl) fun i hi => ?_
  simp only [resized, refResizeTo]
  rw [plain_t _ hi]
  simp only [plain_t v hi]
  cases has i <;> cases v.h i <;> simp [hi]

/-! ### merge -/
/-- is i a member of what two of one epoch, or the later one, know -/
def memb (a b : V) (i : Nat) : Bool := if a.ep = b.ep then a.h i || b.h i else a.h i
def mergeTo (k : Nat) (a b : V) : V := { a with h := fun i => if i < k then memb a b i else a.h i, t := fun i => if i < k ∧ memb a b i = true then max (a.t i) (b.t i) else a.t i }
def merge (a b : V) : V := if a.ep < b.ep then mergeTo 4 (plain b) (plain a) else mergeTo 4 (plain a) (plain b)
theorem mergeTo_zero (a b : V) : mergeTo 0 a b = a := by
  unfold mergeTo
  simp
theorem mergeTo_h (k : Nat) (a b : V) : (mergeTo k a b).h k = a.h k := by simp [mergeTo]
theorem mergeTo_t (k : Nat) (a b : V) : (mergeTo k a b).t k = a.t k := by simp [mergeTo]
theorem cells_mergeTo_same {k : Nat} {a b : V} (hk : k < 4) (he : a.ep = b.ep) (hm : memb a b k = true) :
    cells (mergeTo (k + 1) a b) = ((cells (mergeTo k a b)).setIfInBounds (1 + k) (.bool true)).setIfInBounds (5 + k) (.int .u64 (max (a.t k) (b.t k))) := by
  rw [cells_setH _ _ hk, cells_setT _ _ hk]
  refine cells_ext rfl (fun i _ => ?_) fun i _ => ?_
  · simp only [mergeTo, setT, setH]
    by_cases hi : i = k
    · subst hi; rw [if_pos (by omega), if_pos rfl, hm]
    · have : i < k + 1 ↔ i < k := by omega
      simp only [this, if_neg hi]
  · simp only [mergeTo, setT, setH]
    by_cases hi : i = k
    · subst hi; rw [if_pos ⟨by omega, hm⟩, if_pos rfl]
    · have : i < k + 1 ↔ i < k := by omega
      simp only [this, if_neg hi]
theorem cells_mergeTo_none {k : Nat} {a b : V} (hk : k < 4) (he : a.ep = b.ep) (hm : memb a b k = false) :
    cells (mergeTo (k + 1) a b) = (cells (mergeTo k a b)).setIfInBounds (1 + k) (.bool false) := by
  rw [cells_setH _ _ hk]
  refine cells_ext rfl (fun i _ => ?_) fun i _ => ?_
  · simp only [mergeTo, setH]
    by_cases hi : i = k
    · subst hi; rw [if_pos (by omega), if_pos rfl, hm]
    · have : i < k + 1 ↔ i < k := by omega
      simp only [this, if_neg hi]
  · simp only [mergeTo, setH]
    by_cases hi : i = k
    · subst hi; rw [if_neg (by rw [hm]; simp), if_neg (by omega)]
    · have : i < k + 1 ↔ i < k := by omega
      simp only [this]
theorem cells_mergeTo_later {k : Nat} {a b : V} (hk : k < 4) (he : a.ep ≠ b.ep) (hm : a.h k = true) :
    cells (mergeTo (k + 1) a b) = (cells (mergeTo k a b)).setIfInBounds (5 + k) (.int .u64 (max (a.t k) (b.t k))) := by
  have hmm : memb a b k = true := by rw [memb, if_neg he]; exact hm
  rw [cells_setT _ _ hk]
  refine cells_ext rfl (fun i _ => ?_) fun i _ => ?_
  · simp only [mergeTo, setT]
    by_cases hi : i = k
    · subst hi; rw [if_pos (by omega), if_neg (by omega), hmm, hm]
    · have : i < k + 1 ↔ i < k := by omega
      simp only [this]
  · simp only [mergeTo, setT]
    by_cases hi : i = k
    · subst hi; rw [if_pos ⟨by omega, hmm⟩, if_pos rfl]
    · have : i < k + 1 ↔ i < k := by omega
      simp only [this, if_neg hi]
theorem cells_mergeTo_other {k : Nat} {a b : V} (he : a.ep ≠ b.ep) (hm : a.h k = false) : cells (mergeTo (k + 1) a b) = cells (mergeTo k a b) := by
  have hmm : memb a b k = false := by rw [memb, if_neg he]; exact hm
  refine cells_ext rfl (fun i _ => ?_) fun i _ => ?_
  · simp only [mergeTo]
    by_cases hi : i = k
    · subst hi; rw [if_pos (by omega), if_neg (by omega), hmm, hm]
    · have : i < k + 1 ↔ i < k := by omega
      simp only [this]
  · simp only [mergeTo]
    by_cases hi : i = k
    · subst hi; rw [if_neg (by rw [hmm]; simp), if_neg (by omega)]
    · have : i < k + 1 ↔ i < k := by omega
      simp only [this]

/-! ### below -/
def LeqTo (k : Nat) (a b : V) : Prop := ∀ i, i < k → a.h i = true → b.h i = true ∧ a.t i ≤ b.t i
instance (k : Nat) (a b : V) : Decidable (LeqTo k a b) := by unfold LeqTo; infer_instance
def leq (a b : V) : Bool := decide (a.ep = b.ep ∧ LeqTo 4 a b)
theorem LeqTo.succ {k : Nat} {a b : V} (h : LeqTo k a b) (hk : a.h k = true → b.h k = true ∧ a.t k ≤ b.t k) : LeqTo (k + 1) a b := fun i hi hm => by
  by_cases e : i = k
  · subst e; exact hk hm
  · exact h i (by omega) hm
theorem leq_no {k : Nat} {a b : V} (hk : k < 4) (hm : a.h k = true) (hn : b.h k = false ∨ b.t k < a.t k) : leq a b = false := by
  unfold leq
  apply decide_eq_false
  rintro ⟨_, h⟩
  obtain ⟨h1, h2⟩ := h k hk hm
  rcases hn with h | h
  · rw [h1] at h; simp at h
  · omega
end Go.Proofs.Ytmogoockhlfabaa.Vec
