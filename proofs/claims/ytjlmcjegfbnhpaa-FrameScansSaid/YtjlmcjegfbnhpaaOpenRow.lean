/- Rows that came in: what their elements' cells hold. No type in sight. -/
import Derived.Test.YtjlmcjegfbnhpaaOpen
namespace Go.Proofs.Ytjlmcjegfbnhpaa
open Go.ChangeShapes Go.WideShapes Go.ChangeAt Go.RowKit
set_option linter.unusedVariables false
theorem choose_list {α : Type} {R : Nat → α → Prop} : ∀ (n : Nat), (∀ i, i < n → ∃ x, R i x) → ∃ l : List α, l.length = n ∧ ∀ i x, l[i]? = some x → R i x
  | 0, _ => ⟨[], rfl, fun i x h => by simp at h⟩
  | n + 1, h => by
    obtain ⟨l, hl, hr⟩ := choose_list n (fun i hi => h i (by omega))
    obtain ⟨x, hx⟩ := h n (by omega)
    refine ⟨l ++ [x], by simp [hl], fun i y hy => ?_⟩
    by_cases hi : i < n
    · rw [List.getElem?_append_left (by omega)] at hy
      exact hr i y hy
    · have hlt := (List.getElem?_eq_some_iff.1 hy).1
      simp at hlt
      obtain rfl : i = n := by omega
      rw [List.getElem?_append_right (by omega), hl, Nat.sub_self] at hy
      simp at hy
      subst hy
      exact hx
section
variable {H : Type} {enc : TypeId × Value → H}
theorem weights_mem {P : Program} {e : TypeId} {d : DataW H} {m : Nat} (hm : m ∈ d.weights P e) : ∀ {l : List (DataW H)}, d ∈ l → m ∈ DataW.weightsAll P e l
  | [], h => absurd h (by simp)
  | x :: r, h => by
    rw [DataW.weightsAll, List.mem_append]
    rcases List.mem_cons.1 h with rfl | h
    · exact .inl hm
    · exact .inr (weights_mem hm h)
theorem open_slice {P : Program} {W : World} {t e : TypeId} {s fuel : Nat} {v : Value} {y : DataW H × List MemPlace} (ht : P.underlying t = some (.slice e)) (hs : P.cellsOf e = s) (h0 : 0 < s)
    (h : DataW.trod enc P W 0 (fun _ => true) true fuel t [v] = some y) (hlt : ∀ x ∈ y.2, x.block < W.heap.size) (h3 : ∀ n ∈ y.1.weights P t, n ≤ reachBytes) :
    ∃ (A : Option Addr) (n c : Nat), v = .slice A n c ∧ n ≤ c ∧ c * P.bytesOf e ≤ 140737488351232 ∧ c ≤ maxLen ∧ ∀ i, i < n → ∃ (ad : Addr) (cs : List Value) (z : DataW H × List MemPlace) (m : Nat), A = some ad ∧ ad.block < W.heap.size ∧
      (∀ j u, cs[j]? = some u → W.cell? (ad.add (i * s + j)) = some u) ∧ DataW.trod enc P W 0 (fun _ => true) true m e cs = some z ∧ (∀ x ∈ z.2, x.block < W.heap.size) ∧ (∀ n ∈ z.1.weights P e, n ≤ reachBytes) := by
  rcases DataW.trod_slice ht h with ⟨hcs, _⟩ | ⟨a, len, cap, elems, rest, n, _, hcs, rfl, hb, hl, hm, hlen, hel, hsp, _⟩
  · simp at hcs
    subst hcs
    exact ⟨none, 0, 0, rfl, by simp, by simp, by simp, fun i hi => by omega⟩
  · simp at hcs
    subst hcs
    obtain ⟨hrl, _⟩ := hsp rfl
    refine ⟨some a, len, cap, rfl, hl, ?_, hm, fun i hi => ?_⟩
    · have := h3 (cap * P.bytesOf e) (by
        simp only [DataW.weights, ht, List.length_map]
        rw [hlen, hrl, show len + (cap - len) = cap by omega]
        simp)
      simpa [reachBytes] using this
    · have hz := hel i hi
      rw [List.getElem?_eq_getElem (by omega), Option.bind_eq_some_iff] at hz
      obtain ⟨cs, hc, hz⟩ := hz
      rw [hs] at hc
      have hblk := World.cells?_block hc h0
      rw [block_of_add] at hblk
      have hin : elems[i]'(by omega) ∈ elems := List.getElem_mem _
      refine ⟨a, cs, elems[i]'(by omega), n, rfl, hblk, fun j u hj => ?_, hz, fun x hx => hlt x ?_, fun m hm => h3 m ?_⟩
      · obtain ⟨_, hcl, hcc⟩ := World.cells?_some hc
        have hj2 := (List.getElem?_eq_some_iff.1 hj).1
        rw [← Addr.add_add, hcc j (by omega), hj]
      · simp only [List.mem_append, List.mem_flatMap]
        exact .inr ⟨_, .inl hin, hx⟩
      · simp only [DataW.weights, ht]
        rw [List.mem_cons, List.mem_append]
        exact .inr (.inl (weights_mem hm (List.mem_map.2 ⟨_, hin, rfl⟩)))
/-- rows of bytes -/
theorem open_bytesRows {P : Program} {W : World} {t e u : TypeId} {fuel : Nat} {v : Value} {y : DataW H × List MemPlace} (ht : P.underlying t = some (.slice e)) (he : P.underlying e = some (.slice u)) (hu : P.underlying u = some (.int .u8)) (hs : P.cellsOf e = 1) (hcu : P.cellsOf u = 1) (hby : P.bytesOf u = 1)
    (h : DataW.trod enc P W 0 (fun _ => true) true fuel t [v] = some y) (hlt : ∀ x ∈ y.2, x.block < W.heap.size) (h3 : ∀ n ∈ y.1.weights P t, n ≤ reachBytes) :
    ∃ (A : Option Addr) (c : Nat) (r : List (List UInt8 × Option Addr × Nat)), v = .slice A r.length c ∧ r.length ≤ c ∧ c ≤ maxLen ∧ ∀ i x, r[i]? = some x → ∃ ad, A = some ad ∧ ad.block < W.heap.size ∧ W.cell? (ad.add i) = some (.slice x.2.1 x.1.length x.2.2) ∧ RdB W W.heap.size x.2.1 x.1 ∧ x.1.length ≤ x.2.2 ∧ x.2.2 ≤ 140737488351232 := by
  obtain ⟨A, n, c, rfl, h1, _, h2, hel⟩ := open_slice ht hs (by omega) h hlt h3
  obtain ⟨r, hr, hR⟩ := choose_list (R := fun i (x : List UInt8 × Option Addr × Nat) => ∃ ad, A = some ad ∧ ad.block < W.heap.size ∧ W.cell? (ad.add i) = some (.slice x.2.1 x.1.length x.2.2) ∧ RdB W W.heap.size x.2.1 x.1 ∧ x.1.length ≤ x.2.2 ∧ x.2.2 ≤ 140737488351232) n (fun i hi => by
    obtain ⟨ad, cs, z, m, e1, e2, e3, e4, e5, e6⟩ := hel i hi
    have hl : cs.length = 1 := by
      rcases DataW.trod_slice he e4 with ⟨rfl, _⟩ | ⟨_, _, _, _, _, _, _, rfl, _⟩ <;> rfl
    match cs, hl with
    | [c0], _ =>
      obtain ⟨A2, l, d, rfl, g1, g2, g3⟩ := cell_bytes he hu hcu hby e4 e5 e6
      exact ⟨(l, A2, d), ad, e1, e2, by have := e3 0 _ rfl; simpa using this, g3, g1, g2⟩)
  exact ⟨A, c, r, by rw [hr], by omega, h2, hR⟩
end
end Go.Proofs.Ytjlmcjegfbnhpaa
