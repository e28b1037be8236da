/- The program's table and the document's, side by side. No program in sight. -/
import Derived.Test.YtcljendidhfobaaCoDStart2
import Derived.Test.YtcljendidhfobaaCoTouch
import Derived.Test.YtcljendidhfobaaCoDEnd2
namespace Go.Proofs.Ytcljendidhfobaa
set_option linter.unusedVariables false
open Go.RowKit

structure EtOk (k : Nat) (e : Et) : Prop where
  t0 : 0 ≤ e.tx
  t1 : e.tx ≤ 18446744073709551615
  shs : e.shs.length ≤ 6
  fl : (flatS e.shs).length ≤ 48
  vl : e.votes.length ≤ k
  el : e.ended.length ≤ k
/-- both tables, after k operations -/
structure Both (T : List Et) (D : List Dt) (k : Nat) : Prop where
  len : T.length = D.length
  rel : ∀ (i : Nat) (e : Et) (d : Dt), T[i]? = some e → D[i]? = some d → Rel e d
  keys : Keys T
  each : ∀ e ∈ T, EtOk k e
  tl : T.length ≤ k
theorem EtOk.next {k : Nat} {e : Et} (h : EtOk k e) : EtOk (k + 1) e := ⟨h.t0, h.t1, h.shs, h.fl, Nat.le_succ_of_le h.vl, Nat.le_succ_of_le h.el⟩
theorem Both.next {T : List Et} {D : List Dt} {k : Nat} (h : Both T D k) : Both T D (k + 1) := ⟨h.len, h.rel, h.keys, fun e he => (h.each e he).next, Nat.le_succ_of_le h.tl⟩
theorem Both.nil : Both [] [] 0 := ⟨rfl, fun i e d h => by simp at h, .nil, fun e h => by simp at h, Nat.le_refl _⟩
theorem Keys.apart {T : List Et} (h : Keys T) {i j : Nat} {a b : Et} (hij : i ≠ j) (hi : T[i]? = some a) (hj : T[j]? = some b) : a.tx ≠ b.tx := by
  obtain ⟨li, rfl⟩ := List.getElem?_eq_some_iff.1 hi
  obtain ⟨lj, rfl⟩ := List.getElem?_eq_some_iff.1 hj
  have := List.pairwise_iff_getElem.1 h
  rcases Nat.lt_or_gt_of_ne hij with h1 | h1
  · exact this i j li lj h1
  · exact (this j i lj li h1).symm
theorem Both.other {T : List Et} {D : List Dt} {k : Nat} (h : Both T D k) {i : Nat} {d : Dt} (hd : D[i]? = some d) : ∃ e, T[i]? = some e ∧ Rel e d := by
  have hl := (List.getElem?_eq_some_iff.1 hd).1
  have hT : T[i]? = some (T[i]'(by rw [h.len]; exact hl)) := List.getElem?_eq_getElem _
  exact ⟨_, hT, h.rel i _ d hT hd⟩
theorem Both.keysD {T : List Et} {D : List Dt} {k : Nat} (h : Both T D k) : KeysD D := fun i j a b hij hi hj => by
  obtain ⟨x, hx, rx⟩ := h.other hi
  obtain ⟨y, hy, ry⟩ := h.other hj
  rw [← rx.tx, ← ry.tx]
  exact h.keys.apart hij hx hy
theorem Both.some {T : List Et} {D : List Dt} {k : Nat} (h : Both T D k) {tx : Int} {e : Et} (hg : getT T tx = .some e) : ∃ i d, T[i]? = .some e ∧ D[i]? = .some d ∧ atD D tx i d ∧ Rel e d := by
  obtain ⟨i, hi⟩ := List.mem_iff_getElem?.1 (getT_mem hg)
  have hl := (List.getElem?_eq_some_iff.1 hi).1
  have hD : D[i]? = .some (D[i]'(by rw [← h.len]; exact hl)) := List.getElem?_eq_getElem _
  have hr := h.rel i e _ hi hD
  have ha := h.keysD.at_ hD
  rw [← hr.tx, getT_tx hg] at ha
  exact ⟨i, _, hi, hD, ha, hr⟩
theorem Both.none {T : List Et} {D : List Dt} {k : Nat} (h : Both T D k) {tx : Int} (hg : getT T tx = .none) : noD D tx := fun j x hx => by
  obtain ⟨e, he, hr⟩ := h.other hx
  rw [← hr.tx]
  exact getT_none hg e (List.mem_of_getElem? he)
theorem Both.touch {T : List Et} {D : List Dt} {k : Nat} (h : Both T D k) : T.map Et.shs = D.map Dt.shs := by
  apply List.ext_getElem?
  intro i
  rw [List.getElem?_map, List.getElem?_map]
  rcases hd : D[i]? with _ | d
  · have : T[i]? = .none := by rw [List.getElem?_eq_none_iff] at hd ⊢; rw [h.len]; exact hd
    rw [this]
    rfl
  · obtain ⟨e, he, hr⟩ := h.other hd
    rw [he]
    exact congrArg Option.some hr.shs
theorem putT_set {T : List Et} (h : Keys T) {i : Nat} {e e' : Et} (hi : T[i]? = .some e) (ht : e'.tx = e.tx) : putT T e' = T.set i e' := by
  apply List.ext_getElem?
  intro j
  unfold putT
  rw [List.getElem?_map, List.getElem?_set]
  have hl := (List.getElem?_eq_some_iff.1 hi).1
  by_cases hij : i = j
  · subst hij
    rw [if_pos rfl, if_pos hl, hi]
    exact congrArg Option.some (if_pos ht.symm)
  · rw [if_neg hij]
    rcases hj : T[j]? with _ | x
    · rfl
    · exact congrArg Option.some (if_neg (by rw [ht]; exact h.apart (Ne.symm hij) hj hi))
theorem dropT_erase : ∀ {T : List Et} (h : Keys T) {i : Nat} {e : Et}, T[i]? = .some e → dropT T e.tx = T.eraseIdx i
  | [], _, i, e, hi => by simp at hi
  | x :: r, h, 0, e, hi => by
    simp at hi
    subst hi
    unfold dropT
    rw [List.filter_cons, if_neg (by simp), List.eraseIdx_cons_zero]
    exact List.filter_eq_self.2 fun y hy => by have := List.rel_of_pairwise_cons h hy; simpa using this.symm
  | x :: r, h, i + 1, e, hi => by
    have hi' : r[i]? = .some e := by simpa using hi
    have := List.rel_of_pairwise_cons h (List.mem_of_getElem? hi')
    have ih := dropT_erase (List.Pairwise.of_cons h) hi'
    unfold dropT at ih ⊢
    rw [List.filter_cons, if_pos (by simpa using this), List.eraseIdx_cons_succ, ih]
theorem Both.set {T : List Et} {D : List Dt} {k : Nat} (h : Both T D k) {i : Nat} {e e' : Et} {d' : Dt} (hi : T[i]? = .some e) (ht : e'.tx = e.tx) (hr : Rel e' d') (hk : EtOk (k + 1) e') : Both (putT T e') (D.set i d') (k + 1) := by
  have hl := (List.getElem?_eq_some_iff.1 hi).1
  refine ⟨by rw [putT_len, List.length_set]; exact h.len, fun j a b ha hb => ?_, ?_, fun a ha => ?_, by rw [putT_len]; exact Nat.le_succ_of_le h.tl⟩
  · rw [putT_set h.keys hi ht, List.getElem?_set] at ha
    rw [List.getElem?_set] at hb
    by_cases hij : i = j
    · rw [if_pos hij, if_pos hl] at ha
      rw [if_pos hij, if_pos (by rw [← h.len]; exact hl)] at hb
      injection ha with ha
      injection hb with hb
      subst ha hb
      exact hr
    · rw [if_neg hij] at ha hb
      exact h.rel j a b ha hb
  · rw [putT_set h.keys hi ht]
    refine List.pairwise_iff_getElem.2 fun a b la lb hab => ?_
    have hko := List.pairwise_iff_getElem.1 h.keys
    rw [List.length_set] at la lb
    have hei : T[i] = e := (List.getElem?_eq_some_iff.1 hi).2
    rw [List.getElem_set, List.getElem_set]
    by_cases h1 : i = a
    · subst h1
      rw [if_pos rfl, if_neg (by omega), ht, ← hei]
      exact hko i b la lb hab
    · rw [if_neg h1]
      by_cases h2 : i = b
      · subst h2
        rw [if_pos rfl, ht, ← hei]
        exact hko a i la lb hab
      · rw [if_neg h2]
        exact hko a b la lb hab
  · rw [putT_set h.keys hi ht] at ha
    rcases List.mem_or_eq_of_mem_set ha with h1 | h1
    · exact (h.each a h1).next
    · rw [h1]; exact hk
theorem Both.drop {T : List Et} {D : List Dt} {k : Nat} (h : Both T D k) {i : Nat} {e : Et} (hi : T[i]? = .some e) : Both (dropT T e.tx) (D.eraseIdx i) (k + 1) := by
  have hl := (List.getElem?_eq_some_iff.1 hi).1
  have hlD : i < D.length := by rw [← h.len]; exact hl
  rw [dropT_erase h.keys hi]
  refine ⟨by rw [List.length_eraseIdx_of_lt hl, List.length_eraseIdx_of_lt hlD, h.len], fun j a b ha hb => ?_, ?_, fun a ha => (h.each a (List.mem_of_mem_eraseIdx ha)).next, by rw [List.length_eraseIdx_of_lt hl]; have := h.tl; omega⟩
  · rw [List.getElem?_eraseIdx] at ha hb
    by_cases hij : j < i
    · rw [if_pos hij] at ha hb
      exact h.rel j a b ha hb
    · rw [if_neg hij] at ha hb
      exact h.rel (j + 1) a b ha hb
  · exact List.Pairwise.sublist (List.eraseIdx_sublist T i) h.keys
theorem Both.push {T : List Et} {D : List Dt} {k : Nat} (h : Both T D k) {e : Et} {d : Dt} (hn : getT T e.tx = .none) (hr : Rel e d) (hk : EtOk (k + 1) e) : Both (T ++ [e]) (D ++ [d]) (k + 1) := by
  refine ⟨by rw [List.length_append, List.length_append, h.len]; rfl, fun j a b ha hb => ?_, ?_, fun a ha => ?_, by rw [List.length_append]; have := h.tl; simp; omega⟩
  · rw [List.getElem?_append] at ha hb
    rw [← h.len] at hb
    by_cases hj : j < T.length
    · rw [if_pos hj] at ha hb
      exact h.rel j a b ha hb
    · rw [if_neg hj] at ha hb
      obtain ⟨l1, e1⟩ := List.getElem?_eq_some_iff.1 ha
      obtain ⟨l2, e2⟩ := List.getElem?_eq_some_iff.1 hb
      simp at e1 e2
      subst e1 e2
      exact hr
  · refine List.pairwise_append.2 ⟨h.keys, List.pairwise_singleton _ _, fun a ha b hb => ?_⟩
    rw [List.mem_singleton] at hb
    subst hb
    exact getT_none hn a ha
  · rcases List.mem_append.1 ha with h1 | h1
    · exact (h.each a h1).next
    · rw [List.mem_singleton] at h1
      subst h1
      exact hk
theorem Rel.fresh {tx low : Int} {shs : List Sh} {d : Dt} (h1 : d.tx = tx) (h2 : d.low = low) (h3 : d.shs = shs) (h4 : d.vts = []) : Rel ⟨tx, low, shs, [], []⟩ d :=
  ⟨h1.symm, h2.symm, h3.symm, by simp [Dt.votes, h4], fun v hv => by rw [h4] at hv; simp at hv, by simp, by simp, fun x hx => by simp at hx, fun x hx => by simp at hx⟩
/-- a vote keeps both tables alike -/
theorem Both.vote {T : List Et} {D : List Dt} {k : Nat} (h : Both T D k) {i : Nat} {e : Et} {d : Dt} (hi : T[i]? = .some e) (hr : Rel e d) {node t : Int} (hv : votedE e node t = true) (A : Option Addr) (c : Nat) :
    Both (putT T (voteE e node t)) (D.set i { d with vts := d.vts ++ [(node, t, false)], vA := A, vc := c }) (k + 1) := by
  have he := h.each e (List.mem_of_getElem? hi)
  refine h.set hi rfl (hr.vote hv A c) ⟨he.t0, he.t1, he.shs, he.fl, ?_, Nat.le_succ_of_le he.el⟩
  have := he.vl
  simp [voteE]
  omega
/-- an end keeps both tables alike -/
theorem Both.end_ {T : List Et} {D : List Dt} {k : Nat} (h : Both T D k) {i : Nat} {e : Et} {d : Dt} (hi : T[i]? = .some e) (hr : Rel e d) {node : Int} (hv : endedE e node = true) {m : Nat} {v : Vt} (hm : atV d.vts node m v) :
    Both (endT T e node) (endD D i e (endV d m v)) (k + 1) := by
  have he := h.each e (List.mem_of_getElem? hi)
  obtain ⟨_, _, hct⟩ := endedE_yes hv
  cases hl : lastE e with
  | true =>
    rw [endT_last hl, endD_last hl]
    have hx := h.drop hi
    have : (D.set i (endV d m v)).eraseIdx i = D.eraseIdx i := by
      apply List.ext_getElem?
      intro j
      rw [List.getElem?_eraseIdx, List.getElem?_eraseIdx]
      by_cases hj : j < i
      · rw [if_pos hj, if_pos hj, List.getElem?_set_ne (by omega)]
      · rw [if_neg hj, if_neg hj, List.getElem?_set_ne (by omega)]
    rw [this]
    exact hx
  | false =>
    rw [endT_more hl, endD_more hl]
    refine h.set hi rfl (hr.end_ hm hct) ⟨he.t0, he.t1, he.shs, he.fl, Nat.le_succ_of_le he.vl, ?_⟩
    have := he.el
    simp [endE]
    omega
end Go.Proofs.Ytcljendidhfobaa
