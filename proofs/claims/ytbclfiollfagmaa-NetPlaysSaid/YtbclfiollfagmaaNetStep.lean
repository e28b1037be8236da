/- What a net is behind a packet more, a packet less, a packet spoilt. -/
import Derived.Test.YtbclfiollfagmaaNetAt
namespace Go.Proofs.Ytbclfiollfagmaa
set_option linter.unusedVariables false
open Go.RowKit

section
variable {w w1 w2 w4 w' : World} {B p i : Nat} {s s' : NS}
theorem hdr_block (A : Option Addr) (c : Nat) (ps : List Pk) (n : Nat) : (hdr ⟨A, c, ps⟩).ownBlock = (Value.slice A n c).ownBlock := by
  unfold hdr
  cases A with
  | none => rfl
  | some a => rfl
theorem NetAt.push (h : NetAt w1 B p s) (hi : i < 441) {x : Pk} {A : Option Addr} {c : Nat} (hx : w1.ownsRow B 5 1 (bv x.1) x.1.1.length (x.1.1.map Bv)) (hfr : ∀ g, (bv x.1).ownBlock = some g → ¬ NFoot p s g) (hsm : x.1.1.length ≤ 4096) (hn : (s.ways i).ps.length < 48) {o : Obj}
    (hown : w4.ownsRow B 36 2 (.slice A ((s.ways i).ps.length + 1) c) ((s.ways i).ps.length + 1) (pkCells (s.ways i).ps ++ [bv x.1, .bool x.2])) (hg : (w1.alloc o).grownBy w4 (hdr (s.ways i)).ownBlock)
    (hat : (Value.slice A ((s.ways i).ps.length + 1) c).ownBlock = (hdr (s.ways i)).ownBlock ∨ (Value.slice A ((s.ways i).ps.length + 1) c).ownBlock = some (w1.alloc o).heap.size) :
    NetAt (w4.setCell ⟨p, i, none⟩ (.slice A ((s.ways i).ps.length + 1) c)) B p (s.put i ⟨A, c, (s.ways i).ps ++ [x]⟩) ∧ Only (NFoot p s) w1 (w4.setCell ⟨p, i, none⟩ (.slice A ((s.ways i).ps.length + 1) c)) ∧
      (∀ g, NFoot p (s.put i ⟨A, c, (s.ways i).ps ++ [x]⟩) g → NFoot p s g ∨ w1.heap.size ≤ g ∨ (bv x.1).ownBlock = some g) := by
  have hl : ((s.ways i).ps ++ [x]).length = (s.ways i).ps.length + 1 := by simp
  have e : hdr ⟨A, c, (s.ways i).ps ++ [x]⟩ = .slice A ((s.ways i).ps.length + 1) c := by rw [hdr, hl]
  have hp := h.blk.lt
  have hbk := ((h.blk.alloc o).grown hg (fun e => h.pr hi e.symm)).set_ i (hdr ⟨A, c, (s.ways i).ps ++ [x]⟩)
  rw [netCells_put s hi, e] at hbk
  have ho : Only (fun g => g = p ∨ (hdr (s.ways i)).ownBlock = some g) w1 (w4.setCell ⟨p, i, none⟩ (.slice A ((s.ways i).ps.length + 1) c)) :=
    Only.setCell (S := fun g => g = p ∨ (hdr (s.ways i)).ownBlock = some g) (p := ⟨p, i, none⟩) (((Only.refl _ w1).alloc o).trans (Only.of_grown hg fun k hk => .inr hk)) (.inl rfl) _
  have hne : ∀ g, (Value.slice A ((s.ways i).ps.length + 1) c).ownBlock = some g → g ≠ p := fun g hg2 e2 => by
    subst e2
    rcases hat with h1 | h1
    · exact h.pr hi (h1 ▸ hg2)
    · rw [h1] at hg2
      injection hg2 with hg2
      simp at hg2
      omega
  have hxo : (w4.setCell ⟨p, i, none⟩ (.slice A ((s.ways i).ps.length + 1) c)).ownsRow B 5 1 (bv x.1) x.1.1.length (x.1.1.map Bv) := own_only hx ho fun g hg2 hS => by
    refine hfr g hg2 ?_
    rcases hS with rfl | hS
    · exact .inl rfl
    · exact .inr (.inl ⟨i, hi, hS⟩)
  have hf : (hdr ⟨A, c, (s.ways i).ps ++ [x]⟩).ownBlock = (hdr (s.ways i)).ownBlock ∨ ∀ g, (hdr ⟨A, c, (s.ways i).ps ++ [x]⟩).ownBlock = some g → w1.heap.size ≤ g := by
    rw [e]
    rcases hat with h1 | h1
    · exact .inl h1
    · exact .inr fun g hg2 => by rw [h1] at hg2; injection hg2 with hg2; simp at hg2; omega
  have hat' := h.put hi (y := ⟨A, c, (s.ways i).ps ++ [x]⟩) hbk ho (by
    rw [e]
    show (w4.setCell ⟨p, i, none⟩ _).ownsRow B _ 2 _ ((s.ways i).ps ++ [x]).length (pkCells ((s.ways i).ps ++ [x]))
    rw [hl, pkCells_app]
    exact ownsRow_setCell_other hown (fun e2 => hne p e2 rfl) _) hf (by rw [hl]; omega) id (fun k z hz => by
      rcases Nat.lt_or_ge k (s.ways i).ps.length with hk | hk
      · rw [List.getElem?_append_left hk] at hz
        exact .inl hz
      · have hk2 := (List.getElem?_eq_some_iff.1 hz).1
        rw [hl] at hk2
        obtain rfl : k = (s.ways i).ps.length := by omega
        rw [List.getElem?_append_right (Nat.le_refl _), Nat.sub_self] at hz
        simp at hz
        subst hz
        exact .inr ⟨rfl, hxo, hsm, hfr⟩) (fun k l _ _ h => h)
  refine ⟨hat', ho.mono fun g _ hS => ?_, fun g hg2 => ?_⟩
  · rcases hS with rfl | hS
    · exact .inl rfl
    · exact .inr (.inl ⟨i, hi, hS⟩)
  · rcases hg2 with rfl | ⟨j, hj, hg2⟩ | ⟨j, k, z, hj, hz, hg2⟩
    · exact .inl (.inl rfl)
    · by_cases hji : j = i
      · subst hji
        rw [NS.put_same] at hg2
        rcases hf with h1 | h1
        · exact .inl (.inr (.inl ⟨j, hj, h1 ▸ hg2⟩))
        · exact .inr (.inl (h1 g hg2))
      · rw [NS.put_other s _ hji] at hg2
        exact .inl (.inr (.inl ⟨j, hj, hg2⟩))
    · by_cases hji : j = i
      · subst hji
        rw [NS.put_same] at hz
        rcases Nat.lt_or_ge k (s.ways j).ps.length with hk | hk
        · have hz : ((s.ways j).ps ++ [x])[k]? = some z := hz
          rw [List.getElem?_append_left hk] at hz
          exact .inl (.inr (.inr ⟨j, k, z, hj, hz, hg2⟩))
        · have hz : ((s.ways j).ps ++ [x])[k]? = some z := hz
          have hk2 := (List.getElem?_eq_some_iff.1 hz).1
          rw [hl] at hk2
          obtain rfl : k = (s.ways j).ps.length := by omega
          rw [List.getElem?_append_right (Nat.le_refl _), Nat.sub_self] at hz
          simp at hz
          subst hz
          exact .inr (.inr hg2)
      · rw [NS.put_other s _ hji] at hz
        exact .inl (.inr (.inr ⟨j, k, z, hj, hz, hg2⟩))
/-- a packet goes: the rest in a row of its own -/
theorem NetAt.drop (h : NetAt w1 B p s) (hi : i < 441) {k : Nat} (hB : B ≤ w1.heap.size) {A : Option Addr} {c : Nat} (hb : Below w1.heap.size w1 w2) (hown : w2.ownsRow w1.heap.size 36 2 (.slice A ((s.ways i).ps.eraseIdx k).length c) ((s.ways i).ps.eraseIdx k).length (pkCells ((s.ways i).ps.eraseIdx k))) :
    NetAt (w2.setCell ⟨p, i, none⟩ (.slice A ((s.ways i).ps.eraseIdx k).length c)) B p (s.put i ⟨A, c, (s.ways i).ps.eraseIdx k⟩) ∧ Only (NFoot p s) w1 (w2.setCell ⟨p, i, none⟩ (.slice A ((s.ways i).ps.eraseIdx k).length c)) ∧
      (∀ g, NFoot p (s.put i ⟨A, c, (s.ways i).ps.eraseIdx k⟩) g → NFoot p s g ∨ w1.heap.size ≤ g) := by
  have hle : ((s.ways i).ps.eraseIdx k).length ≤ (s.ways i).ps.length := List.length_eraseIdx_le ..
  have hfew := h.few i hi
  have hp := h.blk.lt
  have hbk := (h.blk.below hb hp).set_ i (hdr ⟨A, c, (s.ways i).ps.eraseIdx k⟩)
  rw [netCells_put s hi] at hbk
  have ho : Only (fun g => g = p) w1 (w2.setCell ⟨p, i, none⟩ (.slice A ((s.ways i).ps.eraseIdx k).length c)) := Only.setCell (S := fun g => g = p) (p := ⟨p, i, none⟩) (Only.of_new hb) rfl _
  have hf : ∀ g, (hdr ⟨A, c, (s.ways i).ps.eraseIdx k⟩).ownBlock = some g → w1.heap.size ≤ g := fun g hg => (hown.lt g hg).1
  have hat' := h.put hi (y := ⟨A, c, (s.ways i).ps.eraseIdx k⟩) hbk (ho.mono fun g _ hS => .inl hS) (own_more (ownsRow_setCell_other hown (fun e => by have := (hown.lt p e).1; omega) _) (fun g hg => by have := (hown.lt g hg).1; omega)) (.inr hf) (by show ((s.ways i).ps.eraseIdx k).length ≤ 48; omega)
    (fun m => if m < k then m else m + 1) (fun m z hz => by
      have hz : ((s.ways i).ps.eraseIdx k)[m]? = some z := hz
      rw [List.getElem?_eraseIdx] at hz
      split at hz
      · rename_i hmk; rw [if_pos hmk]; exact .inl hz
      · rename_i hmk; rw [if_neg hmk]; exact .inl hz) (fun m l _ _ e => by
      split at e <;> split at e <;> omega)
  refine ⟨hat', ho.mono fun g _ hS => .inl hS, fun g hg => ?_⟩
  rcases hg with rfl | ⟨j, hj, hg2⟩ | ⟨j, m, z, hj, hz, hg2⟩
  · exact .inl (.inl rfl)
  · by_cases hji : j = i
    · subst hji
      rw [NS.put_same] at hg2
      exact .inr (hf g hg2)
    · rw [NS.put_other s _ hji] at hg2
      exact .inl (.inr (.inl ⟨j, hj, hg2⟩))
  · by_cases hji : j = i
    · subst hji
      rw [NS.put_same] at hz
      have hz : ((s.ways j).ps.eraseIdx k)[m]? = some z := hz
      rw [List.getElem?_eraseIdx] at hz
      split at hz
      · exact .inl (.inr (.inr ⟨j, _, z, hj, hz, hg2⟩))
      · exact .inl (.inr (.inr ⟨j, _, z, hj, hz, hg2⟩))
    · rw [NS.put_other s _ hji] at hz
      exact .inl (.inr (.inr ⟨j, m, z, hj, hz, hg2⟩))
end
end Go.Proofs.Ytbclfiollfagmaa
