/- What calls do to a table's times: no program in sight. -/
import Derived.Test.YtmogoockhlfabaaStabDo
namespace Go.Proofs.Ytmogoockhlfabaa
set_option linter.unusedVariables false
open Go.RowKit

def noneB (h : Nat → Bool) : Bool := h 0 == false && h 1 == false && h 2 == false && h 3 == false
theorem fold_mn : ∀ (l : List Int) (a : Int), l.foldl mn a ≤ a ∧ (∀ x ∈ l, l.foldl mn a ≤ x) ∧ (l.foldl mn a = a ∨ l.foldl mn a ∈ l)
  | [], a => ⟨Int.le_refl _, fun x h => by simp at h, .inl rfl⟩
  | y :: l, a => by
    obtain ⟨h1, h2, h3⟩ := fold_mn l (mn a y)
    have hm : mn a y ≤ a ∧ mn a y ≤ y ∧ (mn a y = a ∨ mn a y = y) := by unfold mn; split <;> omega
    rw [List.foldl_cons]
    refine ⟨by omega, fun x hx => ?_, ?_⟩
    · rcases List.mem_cons.1 hx with rfl | hx
      · omega
      · exact h2 x hx
    · rcases h3 with h3 | h3
      · rcases hm.2.2 with h | h
        · exact .inl (h3.trans h)
        · exact .inr (by rw [h3, h]; simp)
      · exact .inr (List.mem_cons_of_mem _ h3)
theorem loc_spec {bs : List Int} (h : 0 < bs.length) : loc bs ∈ bs ∧ ∀ x ∈ bs, loc bs ≤ x := by
  obtain ⟨a, l, rfl⟩ : ∃ a l, bs = a :: l := by cases bs with
    | nil => simp at h
    | cons a l => exact ⟨a, l, rfl⟩
  obtain ⟨h1, h2, h3⟩ := fold_mn (a :: l) a
  have e : loc (a :: l) = (a :: l).foldl mn a := by simp [loc, locTo]
  rw [e]
  refine ⟨?_, h2⟩
  rcases h3 with h3 | h3
  · rw [h3]; simp
  · exact h3
theorem loc_set {bs : List Int} {k : Nat} (t : Int) (hk : k < bs.length) : loc bs ≤ loc (bs.set k (max (bs.getD k 0) t)) := by
  obtain ⟨h1, h2⟩ := loc_spec (bs := bs) (by omega)
  obtain ⟨g1, _⟩ := loc_spec (bs := bs.set k (max (bs.getD k 0) t)) (by rw [List.length_set]; omega)
  rcases List.mem_or_eq_of_mem_set g1 with h | h
  · exact h2 _ h
  · have := h2 (bs.getD k 0) (by
      rw [List.getD_eq_getElem?_getD, List.getElem?_eq_getElem hk]
      exact List.getElem_mem hk)
    omega
theorem raise_t_eq (v : Vec.V) (dc t : Int) {i : Nat} (hi : i < 4) (hh : v.h i = true) : (Vec.raise v dc t).t i = if (i : Int) = dc then max (v.t i) t else v.t i := by
  unfold Vec.raise
  have hp := Vec.plain_t v hi
  rw [hh, if_pos rfl] at hp
  by_cases hc : 0 ≤ dc ∧ dc < 4 ∧ v.h dc.toNat = true
  · rw [if_pos hc]
    unfold Vec.setT
    show (if i = dc.toNat then max ((Vec.plain v).t dc.toNat) t else (Vec.plain v).t i) = _
    by_cases he : (i : Int) = dc
    · have e : dc.toNat = i := by omega
      rw [if_pos he, e, if_pos rfl, hp]
    · rw [if_neg he, if_neg (by omega), hp]
  · rw [if_neg hc, hp, if_neg]
    intro e
    exact hc ⟨by omega, by omega, by rw [← e, Int.toNat_natCast]; exact hh⟩
theorem appl_le {s s' : Tb} (hd : s'.dc = s.dc) (hh : s'.got.h = s.got.h) (ht : ∀ i, i < 4 → s.got.h i = true → s.got.t i ≤ s'.got.t i) (hl : loc s.bs ≤ loc s'.bs) : appl s ≤ appl s' := by
  unfold appl
  rcases hu : (Vec.least (Vec.raise s'.got s'.dc (loc s'.bs))).2 with _ | _
  · have h2 : (Vec.least (Vec.raise s.got s.dc (loc s.bs))).2 = false := by
      rw [← hu]
      exact Vec.least_same_is fun i _ => by rw [Vec.raise_h, Vec.raise_h, hh]
    rw [Vec.least_nought hu, Vec.least_nought h2]
    exact Int.le_refl _
  · refine Vec.least_rises (fun i hi hm => ?_) hu
    rw [Vec.raise_h, hh] at hm
    refine ⟨by rw [Vec.raise_h]; exact hm, ?_⟩
    rw [raise_t_eq _ _ _ hi hm, raise_t_eq _ _ _ hi (by rw [hh]; exact hm), hd]
    have := ht i hi hm
    split <;> omega
theorem noneB_false {h : Nat → Bool} {i : Nat} (hi : i < 4) (hh : h i = true) : noneB h = false := by
  have : i = 0 ∨ i = 1 ∨ i = 2 ∨ i = 3 := by omega
  rcases this with rfl | rfl | rfl | rfl <;> simp [noneB, hh]
theorem rises (s : Tb) (k a ep t : Int) (hn : s.bs.length = s.n) :
    loc s.bs ≤ loc (deed s k a ep t).1.bs ∧ s.st ≤ (deed s k a ep t).1.st ∧ (appl s ≤ appl (deed s k a ep t).1 ∨ k = 3 ∨ (noneB (deed s k a ep t).1.got.h = true ∧ noneB s.got.h = false)) := by
  unfold deed
  by_cases h0 : k = 0
  · rw [if_pos h0]
    unfold beaten
    by_cases hc : a < 0 ∨ (s.n : Int) ≤ a
    · rw [if_pos hc]
      exact ⟨Int.le_refl _, Int.le_refl _, .inl (Int.le_refl _)⟩
    · rw [if_neg hc]
      have hl : loc s.bs ≤ loc (s.bs.set a.toNat (max (s.bs.getD a.toNat 0) t)) := loc_set t (by omega)
      refine ⟨hl, ?_, .inl (appl_le rfl rfl (fun i _ _ => Int.le_refl _) hl)⟩
      show s.st ≤ max s.st _
      omega
  rw [if_neg h0]
  by_cases h1 : k = 1
  · rw [if_pos h1]
    unfold gotten
    by_cases hc : a = s.dc
    · rw [if_pos hc]
      exact ⟨Int.le_refl _, Int.le_refl _, .inl (Int.le_refl _)⟩
    · rw [if_neg hc]
      refine ⟨Int.le_refl _, ?_, .inl (appl_le rfl (Vec.raise_h _ _ _) (fun i hi hh => Vec.raise_t _ _ _ hi hh) (Int.le_refl _))⟩
      show s.st ≤ max s.st _
      omega
  rw [if_neg h1]
  by_cases h2 : k = 2
  · rw [if_pos h2]
    unfold heard
    by_cases hc : a = s.dc ∨ ep < s.known.ep
    · rw [if_pos hc]
      exact ⟨Int.le_refl _, Int.le_refl _, .inl (Int.le_refl _)⟩
    · rw [if_neg hc]
      refine ⟨Int.le_refl _, ?_, .inl (Int.le_refl _)⟩
      show s.st ≤ max s.st _
      omega
  rw [if_neg h2]
  by_cases h3 : k = 3
  · rw [if_pos h3]
    unfold joined
    split
    · exact ⟨Int.le_refl _, Int.le_refl _, .inr (.inl h3)⟩
    split
    · exact ⟨Int.le_refl _, Int.le_refl _, .inr (.inl h3)⟩
    split
    · exact ⟨Int.le_refl _, Int.le_refl _, .inr (.inl h3)⟩
    · exact ⟨Int.le_refl _, Int.le_refl _, .inr (.inl h3)⟩
  rw [if_neg h3]
  by_cases h4 : k = 4
  · rw [if_pos h4]
    unfold parted
    split
    · exact ⟨Int.le_refl _, Int.le_refl _, .inl (Int.le_refl _)⟩
    rename_i hd
    split
    · exact ⟨Int.le_refl _, Int.le_refl _, .inl (Int.le_refl _)⟩
    rename_i hh
    split
    · exact ⟨Int.le_refl _, Int.le_refl _, .inl (Int.le_refl _)⟩
    refine ⟨Int.le_refl _, ?_, ?_⟩
    · show s.st ≤ max s.st _
      omega
    · have hh : s.got.h a.toNat = true := by simpa using hh
      rcases hno : noneB (addH s.got.h a.toNat false) with _ | _
      · refine .inl ?_
        show (Vec.least (Vec.raise s.got s.dc (loc s.bs))).1 ≤ (Vec.least (Vec.raise (Vec.resized s.got ep (addH s.got.h a.toNat false)) s.dc (loc s.bs))).1
        refine Vec.least_rises (fun i hi hm => ?_) ?_
        · rw [Vec.raise_h, Vec.resized_h] at hm
          have hsi : s.got.h i = true := by
            unfold addH at hm
            split at hm
            · cases hm
            · exact hm
          refine ⟨by rw [Vec.raise_h]; exact hsi, ?_⟩
          rw [raise_t_eq _ _ _ hi hsi, raise_t_eq _ _ _ hi (by rw [Vec.resized_h]; exact hm), Vec.resized_t _ _ _ hi, hm, hsi, if_pos rfl, if_pos rfl]
          exact Int.le_refl _
        · rcases hl : (Vec.least (Vec.raise (Vec.resized s.got ep (addH s.got.h a.toNat false)) s.dc (loc s.bs))).2 with _ | _
          · have := Vec.least_false.1 hl
            have hz : noneB (addH s.got.h a.toNat false) = true := by
              have g : ∀ i, i < 4 → addH s.got.h a.toNat false i = false := fun i hi => by
                have := this i hi
                rw [Vec.raise_h, Vec.resized_h] at this
                exact this
              simp [noneB, g 0 (by omega), g 1 (by omega), g 2 (by omega), g 3 (by omega)]
            rw [hno] at hz
            cases hz
          · rfl
      · exact .inr (.inr ⟨hno, noneB_false (by omega) hh⟩)
  rw [if_neg h4]
  refine ⟨Int.le_refl _, ?_, .inl (Int.le_refl _)⟩
  show s.st ≤ max s.st t
  omega
end Go.Proofs.Ytmogoockhlfabaa
