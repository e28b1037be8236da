/- What is stable is told or was ahead: no program in sight. -/
import Derived.Test.YtmogoockhlfabaaStabMath
namespace Go.Proofs.Ytmogoockhlfabaa
set_option linter.unusedVariables false
open Go.RowKit

/-- what the watcher of a member knows: told, ahead, joined -/
structure BCore (s : Tb) (who : Nat) (told ahead jn : Int) : Prop where
  dc : s.dc = 0
  kh : s.known.h = s.got.h
  ke : s.known.ep = jn
  t0 : 0 ≤ told
  kt : s.known.h who = true → s.known.t who ≤ told
  st : s.got.h who = true → s.st ≤ told ∨ s.st ≤ ahead
theorem Vec.raise_ep' (v : Vec.V) (dc t : Int) : (Vec.raise v dc t).ep = v.ep := by
  unfold Vec.raise
  split <;> rfl
theorem setl_le {s : Tb} {who : Nat} {told : Int} (h1 : 1 ≤ who) (h4 : who < 4) (hd : s.dc = 0) (hh : s.known.h who = true) (hk : s.known.t who ≤ told) : setl s ≤ told := by
  unfold setl
  have hm : (Vec.raise s.known s.dc (appl s)).h who = true := by rw [Vec.raise_h]; exact hh
  have ht : (Vec.raise s.known s.dc (appl s)).t who = s.known.t who := by rw [raise_t_eq _ _ _ h4 hh, if_neg (by omega)]
  rcases hl : (Vec.least (Vec.raise s.known s.dc (appl s))).2 with _ | _
  · have := Vec.least_false.1 hl who h4
    rw [hm] at this
    cases this
  · have := ((Vec.leastTo_spec 4 (Vec.raise s.known s.dc (appl s))).1 hl).2 who h4 hm
    rw [ht] at this
    exact Int.le_trans this hk
theorem settled_core {s : Tb} {who : Nat} {told ahead jn : Int} (h1 : 1 ≤ who) (h4 : who < 4) (hd : s.dc = 0) (hh : s.known.h = s.got.h) (he : s.known.ep = jn) (ht : 0 ≤ told) (hk : s.known.h who = true → s.known.t who ≤ told) (hs : s.got.h who = true → s.st ≤ told ∨ s.st ≤ ahead) :
    BCore (settled s) who told ahead jn := by
  refine ⟨hd, hh, he, ht, hk, fun hm => ?_⟩
  have hm : s.got.h who = true := hm
  have hg : s.known.h who = true := by rw [hh]; exact hm
  have h := setl_le h1 h4 hd hg (hk hg)
  show max s.st (setl s) ≤ told ∨ max s.st (setl s) ≤ ahead
  rcases hs hm with h2 | h2
  · exact .inl (by omega)
  · by_cases h3 : setl s ≤ s.st
    · exact .inr (by omega)
    · exact .inl (by omega)
theorem below_join {s : Tb} {who : Nat} {told ahead jn : Int} (h : BCore s who told ahead jn) {a ep t : Int} (hr : (deed s 3 a ep t).2 = 0) : BCore (deed s 3 a ep t).1 who 0 s.st ep := by
  have e : deed s 3 a ep t = joined s a ep := by unfold deed; rfl
  rw [e] at hr ⊢
  unfold joined at hr ⊢
  split at hr
  · cases hr
  split at hr
  · cases hr
  split at hr
  · cases hr
  rename_i h1 h2 h3
  rw [if_neg h1, if_neg h2, if_neg h3]
  exact ⟨h.dc, rfl, rfl, Int.le_refl _, fun _ => Int.le_refl _, fun _ => .inr (Int.le_refl _)⟩
theorem below_refused {s : Tb} {who : Nat} {told ahead jn : Int} (h : BCore s who told ahead jn) {a ep t : Int} (hr : (deed s 3 a ep t).2 ≠ 0) : BCore (deed s 3 a ep t).1 who told ahead jn := by
  have e : deed s 3 a ep t = joined s a ep := by unfold deed; rfl
  rw [e] at hr ⊢
  unfold joined at hr ⊢
  split at hr
  · rename_i h1; rw [if_pos h1]; exact h
  split at hr
  · rename_i h1 h2; rw [if_neg h1, if_pos h2]; exact h
  split at hr
  · rename_i h1 h2 h3; rw [if_neg h1, if_neg h2, if_pos h3]; exact h
  · exact absurd rfl hr
theorem below_told {s : Tb} {who : Nat} {told ahead jn : Int} (h1 : 1 ≤ who) (h4 : who < 4) (h : BCore s who told ahead jn) {ep t : Int} (he : jn ≤ ep) : BCore (deed s 2 (who : Int) ep t).1 who (max told t) ahead jn := by
  have e : deed s 2 (who : Int) ep t = (heard s who ep t, 0) := by unfold deed; rfl
  rw [e]
  unfold heard
  have hd := h.dc
  have hke := h.ke
  rw [if_neg (by omega)]
  refine settled_core h1 h4 h.dc ?_ ?_ (by have := h.t0; omega) (fun hm => ?_) (fun hm => ?_)
  · show (Vec.raise s.known who t).h = s.got.h
    rw [Vec.raise_h]; exact h.kh
  · show (Vec.raise s.known who t).ep = jn
    rw [Vec.raise_ep']; exact h.ke
  · have hm : (Vec.raise s.known who t).h who = true := hm
    rw [Vec.raise_h] at hm
    show (Vec.raise s.known who t).t who ≤ max told t
    rw [raise_t_eq _ _ _ h4 hm, if_pos rfl]
    have := h.kt hm
    omega
  · rcases h.st hm with h5 | h5
    · exact .inl (by show s.st ≤ max told t; omega)
    · exact .inr h5
theorem below_else {s : Tb} {who : Nat} {told ahead jn : Int} (h1 : 1 ≤ who) (h4 : who < 4) (h : BCore s who told ahead jn) {k a ep t : Int} (hk3 : k ≠ 3) (hn : ¬ (k = 2 ∧ a = who ∧ jn ≤ ep)) (hl : 0 ≤ k ∧ k ≤ 4) : BCore (deed s k a ep t).1 who told ahead jn := by
  unfold deed
  by_cases c0 : k = 0
  · rw [if_pos c0]
    unfold beaten
    by_cases hc : a < 0 ∨ (s.n : Int) ≤ a
    · rw [if_pos hc]; exact h
    · rw [if_neg hc]
      exact settled_core h1 h4 h.dc h.kh h.ke h.t0 h.kt h.st
  rw [if_neg c0]
  by_cases c1 : k = 1
  · rw [if_pos c1]
    unfold gotten
    by_cases hc : a = s.dc
    · rw [if_pos hc]; exact h
    · rw [if_neg hc]
      refine settled_core h1 h4 h.dc ?_ h.ke h.t0 h.kt (fun hm => ?_)
      · show s.known.h = (Vec.raise s.got a t).h
        rw [Vec.raise_h]; exact h.kh
      · have hm : (Vec.raise s.got a t).h who = true := hm
        rw [Vec.raise_h] at hm
        exact h.st hm
  rw [if_neg c1]
  by_cases c2 : k = 2
  · rw [if_pos c2]
    unfold heard
    by_cases hc : a = s.dc ∨ ep < s.known.ep
    · rw [if_pos hc]; exact h
    · rw [if_neg hc]
      have hke := h.ke
      have ha : ¬ ((who : Int) = a) := fun e => hn ⟨c2, e.symm, by omega⟩
      refine settled_core h1 h4 h.dc ?_ ?_ h.t0 (fun hm => ?_) h.st
      · show (Vec.raise s.known a t).h = s.got.h
        rw [Vec.raise_h]; exact h.kh
      · show (Vec.raise s.known a t).ep = jn
        rw [Vec.raise_ep']; exact h.ke
      · have hm : (Vec.raise s.known a t).h who = true := hm
        rw [Vec.raise_h] at hm
        show (Vec.raise s.known a t).t who ≤ told
        rw [raise_t_eq _ _ _ h4 hm, if_neg ha]
        exact h.kt hm
  rw [if_neg c2, if_neg hk3]
  have c4 : k = 4 := by omega
  rw [if_pos c4]
  unfold parted
  split
  · exact h
  split
  · exact h
  split
  · exact h
  have hh : ∀ i, addH s.got.h a.toNat false i = true → s.got.h i = true := fun i hi => by
    unfold addH at hi
    split at hi
    · cases hi
    · exact hi
  refine settled_core h1 h4 h.dc rfl h.ke h.t0 (fun hm => ?_) (fun hm => h.st (hh who hm))
  have hm : addH s.got.h a.toNat false who = true := hm
  show (Vec.plain { s.known with h := addH s.got.h a.toNat false }).t who ≤ told
  rw [Vec.plain_t _ h4]
  rw [if_pos hm]
  exact h.kt (by rw [h.kh]; exact hh who hm)
theorem below_lift {s : Tb} {who : Nat} {told ahead jn : Int} (h : BCore s who told ahead jn) {k a ep t : Int} (hl : k < 0 ∨ 4 < k) : BCore (deed s k a ep t).1 who told (max ahead t) jn := by
  unfold deed
  rw [if_neg (by omega), if_neg (by omega), if_neg (by omega), if_neg (by omega), if_neg (by omega)]
  refine ⟨h.dc, h.kh, h.ke, h.t0, h.kt, fun hm => ?_⟩
  show max s.st t ≤ told ∨ max s.st t ≤ max ahead t
  rcases h.st hm with h5 | h5
  · by_cases h6 : t ≤ s.st
    · exact .inl (by omega)
    · exact .inr (by omega)
  · exact .inr (by omega)
theorem BCore.out {s : Tb} {who : Nat} {told ahead jn told2 : Int} (h : BCore s who told ahead jn) (hm : s.got.h who = false) (h2 : 0 ≤ told2) : BCore s who told2 (max ahead s.st) jn where
  dc := h.dc
  kh := h.kh
  ke := h.ke
  t0 := h2
  kt h3 := by rw [h.kh, hm] at h3; cases h3
  st h3 := by rw [hm] at h3; cases h3
theorem BCore.cast {s : Tb} {who : Nat} {a b j a' b' j' : Int} (h : BCore s who a b j) (e1 : a = a') (e2 : b = b') (e3 : j = j') : BCore s who a' b' j' := by
  subst e1 e2 e3
  exact h
end Go.Proofs.Ytmogoockhlfabaa
