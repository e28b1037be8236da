/- What cells that came in hold: numbers, rows of bytes. No type in sight. -/
import Derived.Test.YtjlmcjegfbnhpaaFrame
namespace Go.Proofs.Ytjlmcjegfbnhpaa
open Go.ChangeShapes Go.WideShapes Go.ChangeAt Go.RowKit
set_option linter.unusedVariables false
section
variable {H : Type} {enc : TypeId × Value → H}
theorem cell_bool {P : Program} {w : World} {base : Nat} {sp : Nat → Bool} {hd : Bool} {t : TypeId} {fuel : Nat} {c : Value} {x : DataW H × List MemPlace} (ht : P.underlying t = some .bool) (h : DataW.trod enc P w base sp hd fuel t [c] = some x) : ∃ b, c = .bool b := by
  obtain ⟨b, hb, _⟩ := DataW.trod_bool ht h
  exact ⟨b, by simpa using hb⟩
theorem cell_u64 {P : Program} {w : World} {base : Nat} {sp : Nat → Bool} {hd : Bool} {t : TypeId} {fuel : Nat} {c : Value} {x : DataW H × List MemPlace} (ht : P.underlying t = some (.int .u64)) (h : DataW.trod enc P w base sp hd fuel t [c] = some x) : ∃ n : Int, c = .int .u64 n ∧ 0 ≤ n ∧ n ≤ 18446744073709551615 := by
  obtain ⟨n, hb, _, w⟩ := DataW.trod_int ht h
  simp [Lit.wf, IntKind.min, IntKind.max, IntKind.signed, IntKind.bits] at w
  exact ⟨n, by simpa using hb, w.1, w.2⟩
theorem cell_i64 {P : Program} {w : World} {base : Nat} {sp : Nat → Bool} {hd : Bool} {t : TypeId} {fuel : Nat} {c : Value} {x : DataW H × List MemPlace} (ht : P.underlying t = some (.int .i64)) (h : DataW.trod enc P w base sp hd fuel t [c] = some x) : ∃ n : Int, c = .int .i64 n ∧ -9223372036854775808 ≤ n ∧ n ≤ 9223372036854775807 := by
  obtain ⟨n, hb, _, w⟩ := DataW.trod_int ht h
  simp [Lit.wf, IntKind.min, IntKind.max, IntKind.signed, IntKind.bits] at w
  exact ⟨n, by simpa using hb, w.1, w.2⟩
theorem cell_ints {P : Program} {W : World} {kd : IntKind} {t e : TypeId} {fuel : Nat} {v : Value} {y : DataW H × List MemPlace} (ht : P.underlying t = some (.slice e)) (he : P.underlying e = some (.int kd)) (hc : P.cellsOf e = 1)
    (h : DataW.trod enc P W 0 (fun _ => true) true fuel t [v] = some y) (hlt : ∀ x ∈ y.2, x.block < W.heap.size) (h3 : ∀ n ∈ y.1.weights P t, n ≤ reachBytes) :
    ∃ (A : Option Addr) (l : List Int) (c : Nat), v = .slice A l.length c ∧ l.length ≤ c ∧ c * P.bytesOf e ≤ 140737488351232 ∧ c ≤ maxLen ∧ RdI kd W W.heap.size A l := by
  rcases open_ints ht he hc h with ⟨hcs, _⟩ | ⟨x, len, cap, zs, hcs, _, hl, hm, hz, rfl, hcell, hwz⟩
  · simp at hcs
    subst hcs
    exact ⟨none, [], 0, rfl, by simp, by simp, by simp, ⟨by simp, fun h => absurd h (by simp)⟩⟩
  · simp at hcs
    subst hcs
    simp at hz
    have hlen : (zs.take len).length = len := by simp; omega
    refine ⟨some x, zs.take len, cap, by rw [hlen], by omega, ?_, hm, ⟨fun n hn => hwz n (List.mem_of_mem_take hn), fun hpos => ⟨x, rfl, ?_, fun j n hj => ?_⟩⟩⟩
    · have := h3 (cap * P.bytesOf e) (by
        have e0 : ∀ (xs ys : List (DataW H)), xs.length + ys.length = cap → cap * P.bytesOf e ∈ (DataW.slice xs ys).weights P t := fun xs ys h => by
          simp [DataW.weights, ht, h]
        exact e0 (lits kd (zs.take len)) (lits kd (zs.drop len)) (by simp [lits]; omega))
      simpa [reachBytes] using this
    · exact hlt (.cell x.block x.off) (by
        have h0 : 0 < cap := by omega
        simp [MemPlace.row]
        first | exact ⟨0, by omega, by simp⟩ | (left; exact ⟨0, by omega, by simp⟩) | omega)
    · have hjl : j < len := by
        rcases Nat.lt_or_ge j len with h | h
        · exact h
        · rw [List.getElem?_eq_none (by omega)] at hj; cases hj
      rw [List.getElem?_take_of_lt hjl] at hj
      rw [hcell j (by omega), List.getD_eq_getElem?_getD, hj]
      rfl
theorem cell_bytes {P : Program} {W : World} {t e : TypeId} {fuel : Nat} {v : Value} {y : DataW H × List MemPlace} (ht : P.underlying t = some (.slice e)) (he : P.underlying e = some (.int .u8)) (hc : P.cellsOf e = 1) (hby : P.bytesOf e = 1)
    (h : DataW.trod enc P W 0 (fun _ => true) true fuel t [v] = some y) (hlt : ∀ x ∈ y.2, x.block < W.heap.size) (h3 : ∀ n ∈ y.1.weights P t, n ≤ reachBytes) :
    ∃ (A : Option Addr) (l : List UInt8) (c : Nat), v = .slice A l.length c ∧ l.length ≤ c ∧ c ≤ 140737488351232 ∧ RdB W W.heap.size A l := by
  obtain ⟨A, l, c, rfl, h1, h2, _, ⟨hw, h3⟩⟩ := cell_ints ht he hc h hlt h3
  refine ⟨A, l.map fun n => UInt8.ofNat n.toNat, c, by simp, by simpa using h1, by rw [hby] at h2; omega, fun hpos => ?_⟩
  obtain ⟨ad, e1, e2, e3⟩ := h3 (by simpa using hpos)
  refine ⟨ad, e1, e2, fun j b hj => ?_⟩
  rw [List.getElem?_map, Option.map_eq_some_iff] at hj
  obtain ⟨n, hn, rfl⟩ := hj
  rw [e3 j n hn]
  have w := hw n (List.mem_of_getElem? hn)
  simp [Lit.wf, IntKind.min, IntKind.max, IntKind.signed, IntKind.bits] at w
  simp only [Bv, UInt8.toNat_ofNat']
  congr 2
  omega
theorem cell_string {P : Program} {w : World} {base : Nat} {sp : Nat → Bool} {hd : Bool} {t : TypeId} {fuel : Nat} {c : Value} {x : DataW H × List MemPlace} (ht : P.underlying t = some .string) (h : DataW.trod enc P w base sp hd fuel t [c] = some x) (h3 : ∀ n ∈ x.1.weights P t, n ≤ reachBytes) : ∃ s : ByteArray, c = .string s ∧ s.size ≤ 140737488351232 := by
  obtain ⟨s, hs, rfl, _⟩ := DataW.trod_string ht h
  simp at hs
  subst hs
  refine ⟨_, rfl, ?_⟩
  have := h3 s.data.toList.length (by simp [DataW.weights])
  simpa [reachBytes] using this
end
end Go.Proofs.Ytjlmcjegfbnhpaa
