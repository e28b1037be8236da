/- What a net is behind a byte spoilt. -/
import Derived.Test.YtbclfiollfagmaaNetStep
namespace Go.Proofs.Ytbclfiollfagmaa
set_option linter.unusedVariables false
open Go.RowKit

theorem own_setAt {w : World} {base g n cap size j : Nat} {e : TypeId} {xs : List Value} (h : w.ownsRow base e size (.slice (some ⟨g, 0, none⟩) n cap) n xs) (hj : j < n * size) (u : Value) : (w.setCell ⟨g, j, none⟩ u).ownsRow base e size (.slice (some ⟨g, 0, none⟩) n cap) n (xs.set j u) := by
  refine ⟨by rw [List.length_set]; exact h.1, ?_⟩
  rcases h.2 with ⟨h1, _⟩ | ⟨g2, cap2, cur, h1, h2, h3, h4, h5, h6, h7⟩
  · cases h1
  · injection h1 with h8 _ h9
    injection h8 with h8
    injection h8 with h8
    subst h8 h9
    have hb : Blk w g e cur := h3
    exact .inr ⟨g, cap, cur.setIfInBounds j u, rfl, h2, hb.set_ j u, h4, h5, by simpa using h6, by rw [Array.toList_setIfInBounds, List.take_set, h7]⟩
theorem pkCells_set : ∀ (ps : List Pk) (k : Nat) (x y : Pk), ps[k]? = some x → bv y.1 = bv x.1 → pkCells (ps.set k y) = (pkCells ps).set (k * 2 + 1) (.bool y.2)
  | [], _, _, _, h, _ => by simp at h
  | z :: r, 0, x, y, h, e => by
    simp at h
    subst h
    simp [pkCells, e]
  | z :: r, k + 1, x, y, h, e => by
    have ih := pkCells_set r k x y (by simpa using h) e
    rw [show (k + 1) * 2 + 1 = k * 2 + 1 + 2 by omega]
    simpa [pkCells] using ih
section
variable {w : World} {B p i k : Nat} {s : NS}
/-- a byte of a packet is another, the packet is spoilt -/
theorem NetAt.spoilt (h : NetAt w B p s) (hi : i < 441) {l : List UInt8} {gb c gr at_ : Nat} {sp : Bool} (hx : (s.ways i).ps[k]? = some ((l, some ⟨gb, 0, none⟩, c), sp)) (hr : (s.ways i).A = some ⟨gr, 0, none⟩) (hat : at_ < l.length) (m : UInt8) :
    NetAt ((w.setCell ⟨gb, at_, none⟩ (Bv m)).setCell ⟨gr, k * 2 + 1, none⟩ (.bool true)) B p (s.put i ⟨(s.ways i).A, (s.ways i).c, (s.ways i).ps.set k ((l.set at_ m, some ⟨gb, 0, none⟩, c), true)⟩) ∧
      Only (NFoot p s) w ((w.setCell ⟨gb, at_, none⟩ (Bv m)).setCell ⟨gr, k * 2 + 1, none⟩ (.bool true)) ∧
      (∀ g, NFoot p (s.put i ⟨(s.ways i).A, (s.ways i).c, (s.ways i).ps.set k ((l.set at_ m, some ⟨gb, 0, none⟩, c), true)⟩) g → NFoot p s g) := by
  have hk := (List.getElem?_eq_some_iff.1 hx).1
  have eb : (bv (l, some ⟨gb, 0, none⟩, c)).ownBlock = some gb := rfl
  have er : (hdr (s.ways i)).ownBlock = some gr := by rw [hdr, hr]; rfl
  have ho : Only (fun g => g = gb ∨ g = gr) w ((w.setCell ⟨gb, at_, none⟩ (Bv m)).setCell ⟨gr, k * 2 + 1, none⟩ (.bool true)) :=
    Only.setCell (S := fun g => g = gb ∨ g = gr) (p := ⟨gr, k * 2 + 1, none⟩) (Only.setCell (S := fun g => g = gb ∨ g = gr) (p := ⟨gb, at_, none⟩) (Only.refl _ w) (.inl rfl) _) (.inr rfl) _
  have hgp : gb ≠ p := fun e => h.pb hi hx (e ▸ eb)
  have hrp : gr ≠ p := fun e => h.pr hi (e ▸ er)
  have hrb : ∀ (j m : Nat) (z : Pk), j < 441 → (s.ways j).ps[m]? = some z → (bv z.1).ownBlock ≠ some gr := fun j m z hj hz => h.rb hi hj hz er
  have hbr : ∀ j, j < 441 → (hdr (s.ways j)).ownBlock ≠ some gb := fun j hj e => h.rb hj hi hx e eb
  have eh : hdr ⟨(s.ways i).A, (s.ways i).c, (s.ways i).ps.set k ((l.set at_ m, some ⟨gb, 0, none⟩, c), true)⟩ = hdr (s.ways i) := by simp [hdr]
  have ehj : ∀ j, hdr ((s.put i ⟨(s.ways i).A, (s.ways i).c, (s.ways i).ps.set k ((l.set at_ m, some ⟨gb, 0, none⟩, c), true)⟩).ways j) = hdr (s.ways j) := fun j => by
    by_cases hji : j = i
    · subst hji; rw [NS.put_same, eh]
    · rw [NS.put_other s _ hji]
  have ec : netCells (s.put i ⟨(s.ways i).A, (s.ways i).c, (s.ways i).ps.set k ((l.set at_ m, some ⟨gb, 0, none⟩, c), true)⟩) = netCells s := by
    unfold netCells netList
    congr 2
    exact List.map_congr_left fun j _ => ehj j
  have hold : ∀ (j n : Nat) (z : Pk), j < 441 → ((s.put i ⟨(s.ways i).A, (s.ways i).c, (s.ways i).ps.set k ((l.set at_ m, some ⟨gb, 0, none⟩, c), true)⟩).ways j).ps[n]? = some z → (j = i ∧ n = k ∧ z = ((l.set at_ m, some ⟨gb, 0, none⟩, c), true)) ∨ (¬ (j = i ∧ n = k) ∧ (s.ways j).ps[n]? = some z) := fun j n z hj hz => by
    by_cases hji : j = i
    · subst hji
      rw [NS.put_same] at hz
      have hz : ((s.ways j).ps.set k ((l.set at_ m, some ⟨gb, 0, none⟩, c), true))[n]? = some z := hz
      rw [List.getElem?_set] at hz
      by_cases hkn : k = n
      · subst hkn
        rw [if_pos rfl, if_pos hk] at hz
        injection hz with hz
        exact .inl ⟨rfl, rfl, hz.symm⟩
      · rw [if_neg hkn] at hz
        exact .inr ⟨fun e => hkn e.2.symm, hz⟩
    · rw [NS.put_other s _ hji] at hz
      exact .inr ⟨fun e => hji e.1, hz⟩
  have hown : ∀ (j n : Nat) (z : Pk), j < 441 → ((s.put i ⟨(s.ways i).A, (s.ways i).c, (s.ways i).ps.set k ((l.set at_ m, some ⟨gb, 0, none⟩, c), true)⟩).ways j).ps[n]? = some z → ∃ z0, (s.ways j).ps[n]? = some z0 ∧ (bv z.1).ownBlock = (bv z0.1).ownBlock ∧ z.1.1.length = z0.1.1.length := fun j n z hj hz => by
    rcases hold j n z hj hz with ⟨rfl, rfl, rfl⟩ | ⟨_, h1⟩
    · exact ⟨_, hx, rfl, by simp⟩
    · exact ⟨_, h1, rfl, rfl⟩
  refine ⟨⟨?_, fun j hj => ?_, fun j n z hj hz => ?_, fun j n g hj hn e1 e2 => ?_, fun j n z j2 n2 z2 g hj hj2 hz hz2 e1 e2 => ?_, h.ge, fun j hj => ?_, fun j n z hj hz => ?_⟩, ho.mono fun g _ hS => ?_, fun g hg => ?_⟩
  · rw [ec]
    exact h.blk.only ho fun e => by
      rcases e with e | e
      · exact hgp e.symm
      · exact hrp e.symm
  · by_cases hji : j = i
    · subst hji
      rw [ehj, NS.put_same]
      have h1 := h.row j hj
      have e1 : hdr (s.ways j) = .slice (some ⟨gr, 0, none⟩) (s.ways j).ps.length (s.ways j).c := by rw [hdr, hr]
      show World.ownsRow _ _ _ _ _ ((s.ways j).ps.set k _).length (pkCells ((s.ways j).ps.set k _))
      rw [List.length_set, pkCells_set _ k _ _ hx (by simp [bv]), e1]
      rw [e1] at h1
      exact own_setAt (ownsRow_setCell_other h1 (by intro e; injection e with e; exact hbr j hj (by rw [e1]; exact congrArg some e)) _) (by omega) _
    · rw [NS.put_other s _ hji]
      refine own_only (h.row j hj) ho fun g hg hS => ?_
      rcases hS with rfl | rfl
      · exact hbr j hj hg
      · exact hji (h.rows j i _ hj hi hg er)
  · rcases hold j n z hj hz with ⟨rfl, rfl, rfl⟩ | ⟨hne, h1⟩
    · have h2 := h.body j n _ hj hx
      show World.ownsRow _ _ _ _ (bv (l.set at_ m, some ⟨gb, 0, none⟩, c)) (l.set at_ m).length ((l.set at_ m).map Bv)
      rw [bv, List.length_set, List.map_set]
      exact ownsRow_setCell_other (own_setAt h2 (by show at_ < l.length * 1; omega) _) (by intro e; injection e with e; exact hrb j n _ hj hx (by rw [eb]; exact congrArg some e)) _
    · refine own_only (h.body j n z hj h1) ho fun g hg hS => ?_
      rcases hS with rfl | rfl
      · exact hne (h.bodies j n _ i k _ _ hj hi h1 hx hg eb)
      · exact hrb j n z hj h1 hg
  · rw [ehj] at e1 e2
    exact h.rows j n g hj hn e1 e2
  · obtain ⟨z0, h1, h2, _⟩ := hown j n z hj hz
    obtain ⟨z1, k1, k2, _⟩ := hown j2 n2 z2 hj2 hz2
    exact h.bodies j n z0 j2 n2 z1 g hj hj2 h1 k1 (h2 ▸ e1) (k2 ▸ e2)
  · by_cases hji : j = i
    · subst hji
      rw [NS.put_same]
      show ((s.ways j).ps.set k _).length ≤ 48
      rw [List.length_set]
      exact h.few j hj
    · rw [NS.put_other s _ hji]
      exact h.few j hj
  · obtain ⟨z0, h1, _, h3⟩ := hown j n z hj hz
    rw [h3]
    exact h.small j n z0 hj h1
  · rcases hS with rfl | rfl
    · exact .inr (.inr ⟨i, k, _, hi, hx, eb⟩)
    · exact .inr (.inl ⟨i, hi, er⟩)
  · rcases hg with rfl | ⟨j, hj, hg⟩ | ⟨j, n, z, hj, hz, hg⟩
    · exact .inl rfl
    · rw [ehj] at hg
      exact .inr (.inl ⟨j, hj, hg⟩)
    · obtain ⟨z0, h1, h2, _⟩ := hown j n z hj hz
      exact .inr (.inr ⟨j, n, z0, hj, h1, h2 ▸ hg⟩)
end
end Go.Proofs.Ytbclfiollfagmaa
