/- What rises, in plain words. No program in sight. -/
import Derived.Test.YtmogoockhlfabaaVecMath
namespace Go.Proofs.Ytmogoockhlfabaa.Vec
set_option linter.unusedVariables false

theorem least_false {v : V} : (least v).2 = false ↔ ∀ i, i < 4 → v.h i = false := by
  constructor
  · exact fun h => ((leastTo_spec 4 v).2 h).2
  · intro h; rw [least_none h]
theorem least_same_is {v u : V} (h : ∀ i, i < 4 → v.h i = u.h i) : (least v).2 = (least u).2 := by
  cases hv : (least v).2 with
  | false =>
    have := least_false.1 hv
    exact (least_false.2 fun i hi => by rw [← h i hi]; exact this i hi).symm
  | true =>
    cases hu : (least u).2 with
    | true => rfl
    | false =>
      have := least_false.1 hu
      rw [least_false.2 fun i hi => by rw [h i hi]; exact this i hi] at hv
      simp at hv
theorem least_nought {v : V} (h : (least v).2 = false) : (least v).1 = 0 := ((leastTo_spec 4 v).2 h).1
theorem least_rises {v u : V} (h : ∀ i, i < 4 → u.h i = true → v.h i = true ∧ v.t i ≤ u.t i) (hu : (least u).2 = true) : (least v).1 ≤ (least u).1 := by
  obtain ⟨⟨i, hi, hh, he⟩, _⟩ := (leastTo_spec 4 u).1 hu
  obtain ⟨h1, h2⟩ := h i hi hh
  have hv : (least v).2 = true := by
    cases hv : (least v).2 with
    | true => rfl
    | false => rw [least_false.1 hv i hi] at h1; simp at h1
  have := ((leastTo_spec 4 v).1 hv).2 i hi h1
  have e1 : (least v).1 = (leastTo 4 v).1 := rfl
  have e2 : (least u).1 = (leastTo 4 u).1 := rfl
  omega
theorem raise_h (v : V) (dc t : Int) : (raise v dc t).h = v.h := by
  unfold raise
  split <;> rfl
theorem raise_t (v : V) (dc t : Int) {i : Nat} (hi : i < 4) (hh : v.h i = true) : v.t i ≤ (raise v dc t).t i := by
  unfold raise
  have hp : (plain v).t i = v.t i := by rw [plain_t v hi, if_pos hh]
  split
  · simp only [setT]
    split
    · rename_i e; subst e; omega
    · omega
  · omega
theorem raise_is (v : V) (dc t : Int) : (least (raise v dc t)).2 = (least v).2 := least_same_is fun i _ => by rw [raise_h]
theorem raise_le (v : V) (dc t : Int) : (least v).1 ≤ (least (raise v dc t)).1 := by
  cases h : (least (raise v dc t)).2 with
  | true => exact least_rises (fun i hi hh => by rw [raise_h] at hh; exact ⟨hh, raise_t v dc t hi hh⟩) h
  | false =>
    have h2 := h
    rw [raise_is] at h2
    rw [least_nought h, least_nought h2]
    exact Int.le_refl _
def without (h : Nat → Bool) (d : Nat) : Nat → Bool := fun i => if i = d then false else h i
theorem resized_h (v : V) (ep : Int) (has : Nat → Bool) : (resized v ep has).h = has := rfl
theorem resized_t (v : V) (ep : Int) (has : Nat → Bool) {i : Nat} (hi : i < 4) : (resized v ep has).t i = if has i then (if v.h i then v.t i else 0) else 0 := by
  unfold resized
  rw [plain_t _ hi]
  simp only [plain_t v hi]
theorem without_le (v : V) (ep : Int) (d : Nat) (h : (least (resized v ep (without v.h d))).2 = true) : (least v).1 ≤ (least (resized v ep (without v.h d))).1 := by
  refine least_rises (fun i hi hh => ?_) h
  rw [resized_h] at hh
  have hv : v.h i = true := by
    unfold without at hh
    split at hh
    · simp at hh
    · exact hh
  refine ⟨hv, ?_⟩
  rw [resized_t _ _ _ hi, if_pos hh, if_pos hv]
  exact Int.le_refl _
theorem without_t (v : V) (ep : Int) (d : Nat) (hd : d < 4) : (resized v ep (without v.h d)).t d = 0 := by
  rw [resized_t _ _ _ hd, if_neg (by simp [without])]
end Go.Proofs.Ytmogoockhlfabaa.Vec
