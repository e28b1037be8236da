/- A net in memory, whole: its ways, their packets, the packets' bytes. -/
import Derived.Test.YtbclfiollfagmaaOnly
import Derived.Test.YtbclfiollfagmaaKnown
import Derived.Deep.RegionHeld3
namespace Go.Proofs.Ytbclfiollfagmaa
set_option linter.unusedVariables false
open Go.RowKit

abbrev Body := List UInt8 × Option Addr × Nat
def bv (x : Body) : Value := .slice x.2.1 x.1.length x.2.2
/-- a packet: its bytes (and where), is it spoilt -/
abbrev Pk := Body × Bool
/-- a way: where its row lies, its room, its packets -/
structure Wy where
  A : Option Addr
  c : Nat
  ps : List Pk
structure NS where
  ways : Nat → Wy
  lost : Int
def hdr (y : Wy) : Value := .slice y.A y.ps.length y.c
def NS.put (s : NS) (i : Nat) (y : Wy) : NS := { s with ways := fun j => if j = i then y else s.ways j }
theorem NS.put_same (s : NS) (i : Nat) (y : Wy) : (s.put i y).ways i = y := if_pos rfl
theorem NS.put_other (s : NS) {i j : Nat} (y : Wy) (h : j ≠ i) : (s.put i y).ways j = s.ways j := if_neg h
def netList (s : NS) : List Value := ((List.range 441).map fun i => hdr (s.ways i)) ++ [.int .i64 s.lost]
def netCells (s : NS) : Array Value := (netList s).toArray
theorem netCells_size (s : NS) : (netCells s).size = 442 := by simp [netCells, netList]
theorem netCells_way (s : NS) {i : Nat} (h : i < 441) : (netCells s)[i]? = some (hdr (s.ways i)) := by
  unfold netCells netList
  rw [List.getElem?_toArray, List.getElem?_append_left (by simpa using h), List.getElem?_map, List.getElem?_range h]
  rfl
theorem netCells_lost (s : NS) : (netCells s)[441]? = some (.int .i64 s.lost) := by
  unfold netCells netList
  rw [List.getElem?_toArray, List.getElem?_append_right (by simp)]
  simp
theorem netCells_put (s : NS) {i : Nat} (h : i < 441) (y : Wy) : (netCells s).setIfInBounds i (hdr y) = netCells (s.put i y) := by
  unfold netCells netList
  rw [List.setIfInBounds_toArray, List.set_append_left _ _ (by simpa using h)]
  congr 2
  apply List.ext_getElem?
  intro j
  by_cases hj : j < 441
  · rw [List.getElem?_map, List.getElem?_range hj, List.getElem?_set]
    by_cases hij : i = j
    · subst hij
      rw [if_pos rfl, if_pos (by simpa using h)]
      show some (hdr y) = some (hdr ((s.put i y).ways i))
      rw [NS.put_same]
    · rw [if_neg hij, List.getElem?_map, List.getElem?_range hj]
      show some (hdr (s.ways j)) = some (hdr ((s.put i y).ways j))
      rw [NS.put_other s y (fun e => hij e.symm)]
  · rw [List.getElem?_eq_none (by simpa using hj), List.getElem?_eq_none (by simpa using hj)]
theorem netCells_setLost (s : NS) (n : Int) : (netCells s).setIfInBounds 441 (.int .i64 n) = netCells { s with lost := n } := by
  unfold netCells netList
  rw [List.setIfInBounds_toArray, List.set_append_right _ _ (by simp)]
  simp
def pkCells (ps : List Pk) : List Value := ps.flatMap fun x => [bv x.1, .bool x.2]
theorem pkCells_len : ∀ (ps : List Pk), (pkCells ps).length = ps.length * 2
  | [] => rfl
  | x :: r => by
    have := pkCells_len r
    simp only [pkCells, List.flatMap_cons, List.length_append, List.length_cons, List.length_nil] at this ⊢
    omega
theorem pkCells_at : ∀ (ps : List Pk) (i : Nat) (x : Pk), ps[i]? = some x → (pkCells ps)[i * 2]? = some (bv x.1) ∧ (pkCells ps)[i * 2 + 1]? = some (.bool x.2)
  | [], _, _, h => by simp at h
  | y :: r, 0, x, h => by
    simp at h
    subst h
    simp [pkCells]
  | y :: r, i + 1, x, h => by
    have ih := pkCells_at r i x (by simpa using h)
    rw [show (i + 1) * 2 = i * 2 + 2 by omega]
    simpa [pkCells] using ih
theorem pkCells_app (a b : List Pk) : pkCells (a ++ b) = pkCells a ++ pkCells b := by simp [pkCells]

/-- a block of the net's: its own, a way's row, a packet's bytes -/
def NFoot (p : Nat) (s : NS) (g : Nat) : Prop := g = p ∨ (∃ i, i < 441 ∧ (hdr (s.ways i)).ownBlock = some g) ∨ ∃ (i k : Nat) (x : Pk), i < 441 ∧ (s.ways i).ps[k]? = some x ∧ (bv x.1).ownBlock = some g
structure NetAt (w : World) (B p : Nat) (s : NS) : Prop where
  blk : Blk w p 63 (netCells s)
  row : ∀ i, i < 441 → w.ownsRow B 36 2 (hdr (s.ways i)) (s.ways i).ps.length (pkCells (s.ways i).ps)
  body : ∀ (i k : Nat) (x : Pk), i < 441 → (s.ways i).ps[k]? = some x → w.ownsRow B 5 1 (bv x.1) x.1.1.length (x.1.1.map Bv)
  rows : ∀ i j g, i < 441 → j < 441 → (hdr (s.ways i)).ownBlock = some g → (hdr (s.ways j)).ownBlock = some g → i = j
  bodies : ∀ (i k : Nat) (x : Pk) (j l : Nat) (y : Pk) (g : Nat), i < 441 → j < 441 → (s.ways i).ps[k]? = some x → (s.ways j).ps[l]? = some y → (bv x.1).ownBlock = some g → (bv y.1).ownBlock = some g → i = j ∧ k = l
  ge : B ≤ p
  few : ∀ i, i < 441 → (s.ways i).ps.length ≤ 48
  small : ∀ (i k : Nat) (x : Pk), i < 441 → (s.ways i).ps[k]? = some x → x.1.1.length ≤ 4096

theorem own_blk {w : World} {b e size n g : Nat} {v : Value} {xs : List Value} (h : w.ownsRow b e size v n xs) (hv : v.ownBlock = some g) : ∃ cur, Blk w g e cur := by
  rcases h.2 with ⟨rfl, _⟩ | ⟨g2, cap, cur, rfl, _, hg, _⟩
  · cases hv
  · have hv : some g2 = some g := hv
    injection hv with hv
    subst hv
    exact ⟨cur, hg⟩
theorem blk_type {w : World} {g : Nat} {t u : TypeId} {a b : Array Value} (h : Blk w g t a) (k : Blk w g u b) : t = u := by
  unfold Blk at h k
  rw [h] at k
  injection k with k
  injection k with _ k _
section
variable {w w' : World} {B p : Nat} {s s' : NS}
theorem NetAt.foot (h : NetAt w B p s) {g : Nat} (hg : NFoot p s g) : B ≤ g ∧ g < w.heap.size := by
  rcases hg with rfl | ⟨i, hi, hg⟩ | ⟨i, k, x, hi, hx, hg⟩
  · exact ⟨h.ge, h.blk.lt⟩
  · exact (h.row i hi).lt g hg
  · exact (h.body i k x hi hx).lt g hg
theorem NetAt.only {S : Nat → Prop} (h : NetAt w B p s) (ho : Only S w w') (hs : ∀ g, NFoot p s g → ¬ S g) : NetAt w' B p s :=
  ⟨h.blk.only ho (hs _ (.inl rfl)), fun i hi => own_only (h.row i hi) ho fun g hg => hs g (.inr (.inl ⟨i, hi, hg⟩)), fun i k x hi hx => own_only (h.body i k x hi hx) ho fun g hg => hs g (.inr (.inr ⟨i, k, x, hi, hx, hg⟩)), h.rows, h.bodies, h.ge, h.few, h.small⟩
theorem NetAt.new (h : NetAt w B p s) (hb : Below w.heap.size w w') : NetAt w' B p s := h.only (S := fun _ => False) (Only.of_new hb) fun _ _ h => h
theorem NetAt.drewN (h : NetAt w B p s) (n : Nat) : NetAt (w.drewN n) B p s := h.new (below_drewN' (Below.refl _ _) n)
/-- the three kinds of blocks lie apart -/
theorem NetAt.pr (h : NetAt w B p s) {i : Nat} (hi : i < 441) : (hdr (s.ways i)).ownBlock ≠ some p := fun e => by
  obtain ⟨cur, hb⟩ := own_blk (h.row i hi) e
  exact absurd (blk_type h.blk hb) (by decide)
theorem NetAt.pb (h : NetAt w B p s) {i k : Nat} {x : Pk} (hi : i < 441) (hx : (s.ways i).ps[k]? = some x) : (bv x.1).ownBlock ≠ some p := fun e => by
  obtain ⟨cur, hb⟩ := own_blk (h.body i k x hi hx) e
  exact absurd (blk_type h.blk hb) (by decide)
theorem NetAt.rb (h : NetAt w B p s) {i j k g : Nat} {x : Pk} (hi : i < 441) (hj : j < 441) (hx : (s.ways j).ps[k]? = some x) (e : (hdr (s.ways i)).ownBlock = some g) : (bv x.1).ownBlock ≠ some g := fun e2 => by
  obtain ⟨cur, hb⟩ := own_blk (h.row i hi) e
  obtain ⟨cur2, hb2⟩ := own_blk (h.body j k x hj hx) e2
  exact absurd (blk_type hb hb2) (by decide)
theorem NetAt.cell (h : NetAt w B p s) {i : Nat} (hi : i < 441) : w.cell? ⟨p, i, none⟩ = some (hdr (s.ways i)) := by rw [h.blk.cell, netCells_way s hi]
theorem NetAt.cellLost (h : NetAt w B p s) : w.cell? ⟨p, 441, none⟩ = some (.int .i64 s.lost) := by rw [h.blk.cell, netCells_lost]
/-- a way's row is another: fewer packets or one more, the row's block its own or new -/
theorem NetAt.put (h : NetAt w B p s) {i : Nat} (hi : i < 441) {y : Wy} (hb : Blk w' p 63 (netCells (s.put i y))) (ho : Only (fun g => g = p ∨ (hdr (s.ways i)).ownBlock = some g) w w')
    (hr : w'.ownsRow B 36 2 (hdr y) y.ps.length (pkCells y.ps)) (hf : (hdr y).ownBlock = (hdr (s.ways i)).ownBlock ∨ ∀ g, (hdr y).ownBlock = some g → w.heap.size ≤ g) (hl : y.ps.length ≤ 48)
    (src : Nat → Nat) (hsrc : ∀ (k : Nat) (x : Pk), y.ps[k]? = some x → (s.ways i).ps[src k]? = some x ∨ (src k = (s.ways i).ps.length ∧ w'.ownsRow B 5 1 (bv x.1) x.1.1.length (x.1.1.map Bv) ∧ x.1.1.length ≤ 4096 ∧ ∀ g, (bv x.1).ownBlock = some g → ¬ NFoot p s g))
    (hinj : ∀ k l, k < y.ps.length → l < y.ps.length → src k = src l → k = l) :
    NetAt w' B p (s.put i y) := by
  have hold : ∀ (j k : Nat) (x : Pk), j < 441 → (s.ways j).ps[k]? = some x → w'.ownsRow B 5 1 (bv x.1) x.1.1.length (x.1.1.map Bv) := fun j k x hj hx =>
    own_only (h.body j k x hj hx) ho fun g hg hS => by
      rcases hS with rfl | hS
      · exact h.pb hj hx hg
      · exact h.rb hi hj hx hS hg
  have hoff : ∀ (k : Nat) (x : Pk), src k = (s.ways i).ps.length → (s.ways i).ps[src k]? = some x → False := fun k x e hx => by
    rw [e] at hx
    simp at hx
  refine ⟨hb, fun j hj => ?_, fun j k x hj hx => ?_, fun j l g hj hl2 e1 e2 => ?_, fun j k x l m z g hj hl2 hx hz e1 e2 => ?_, h.ge, fun j hj => ?_, fun j k x hj hx => ?_⟩
  · by_cases hji : j = i
    · subst hji
      rw [NS.put_same]
      exact hr
    · rw [NS.put_other s y hji]
      refine own_only (h.row j hj) ho fun g hg hS => ?_
      rcases hS with rfl | hS
      · exact h.pr hj hg
      · exact hji (h.rows j i g hj hi hg hS)
  · by_cases hji : j = i
    · subst hji
      rw [NS.put_same] at hx
      rcases hsrc k x hx with h1 | ⟨_, h1, _⟩
      · exact hold j _ x hj h1
      · exact h1
    · rw [NS.put_other s y hji] at hx
      exact hold j k x hj hx
  · by_cases hji : j = i <;> by_cases hli : l = i
    · rw [hji, hli]
    · rw [hji, NS.put_same] at e1
      rw [NS.put_other s y hli] at e2
      rcases hf with e | e
      · rw [e] at e1
        exact absurd (h.rows l i g hl2 hi e2 e1) hli
      · have := e g e1
        have := ((h.row l hl2).lt g e2).2
        omega
    · rw [hli, NS.put_same] at e2
      rw [NS.put_other s y hji] at e1
      rcases hf with e | e
      · rw [e] at e2
        exact absurd (h.rows j i g hj hi e1 e2) hji
      · have := e g e2
        have := ((h.row j hj).lt g e1).2
        omega
    · rw [NS.put_other s y hji] at e1
      rw [NS.put_other s y hli] at e2
      exact h.rows j l g hj hl2 e1 e2
  · by_cases hji : j = i <;> by_cases hli : l = i
    · subst hji hli
      rw [NS.put_same] at hx hz
      have hk := (List.getElem?_eq_some_iff.1 hx).1
      have hm := (List.getElem?_eq_some_iff.1 hz).1
      refine ⟨rfl, hinj k m hk hm ?_⟩
      rcases hsrc k x hx with h1 | ⟨h1, _, _, h2⟩
      · rcases hsrc m z hz with k1 | ⟨k1, _, _, k2⟩
        · exact (h.bodies _ _ _ _ _ _ g hj hj h1 k1 e1 e2).2
        · exact absurd (.inr (.inr ⟨_, _, x, hj, h1, e1⟩)) (k2 g e2)
      · rcases hsrc m z hz with k1 | ⟨k1, _, _, k2⟩
        · exact absurd (.inr (.inr ⟨_, _, z, hj, k1, e2⟩)) (h2 g e1)
        · rw [h1, k1]
    · subst hji
      rw [NS.put_same] at hx
      rw [NS.put_other s y hli] at hz
      rcases hsrc k x hx with h1 | ⟨_, _, _, h2⟩
      · exact absurd (h.bodies _ _ _ _ _ _ g hj hl2 h1 hz e1 e2).1.symm hli
      · exact absurd (.inr (.inr ⟨_, _, z, hl2, hz, e2⟩)) (h2 g e1)
    · subst hli
      rw [NS.put_same] at hz
      rw [NS.put_other s y hji] at hx
      rcases hsrc m z hz with h1 | ⟨_, _, _, h2⟩
      · exact absurd (h.bodies _ _ _ _ _ _ g hj hl2 hx h1 e1 e2).1 hji
      · exact absurd (.inr (.inr ⟨_, _, x, hj, hx, e1⟩)) (h2 g e2)
    · rw [NS.put_other s y hji] at hx
      rw [NS.put_other s y hli] at hz
      exact h.bodies _ _ _ _ _ _ g hj hl2 hx hz e1 e2
  · by_cases hji : j = i
    · rw [hji, NS.put_same]
      exact hl
    · rw [NS.put_other s y hji]
      exact h.few j hj
  · by_cases hji : j = i
    · subst hji
      rw [NS.put_same] at hx
      rcases hsrc k x hx with h1 | ⟨_, _, h1, _⟩
      · exact h.small j _ x hj h1
      · exact h1
    · rw [NS.put_other s y hji] at hx
      exact h.small j k x hj hx
theorem NetAt.setLost (h : NetAt w B p s) (n : Int) : NetAt (w.setCell ⟨p, 441, none⟩ (.int .i64 n)) B p { s with lost := n } ∧ Only (fun g => g = p) w (w.setCell ⟨p, 441, none⟩ (.int .i64 n)) := by
  have ho : Only (fun g => g = p) w (w.setCell ⟨p, 441, none⟩ (.int .i64 n)) := Only.setCell (S := fun g => g = p) (p := ⟨p, 441, none⟩) (Only.refl (fun g => g = p) w) rfl _
  have hk := h.blk.set_ 441 (.int .i64 n)
  rw [netCells_setLost] at hk
  exact ⟨⟨hk, fun i hi => own_only (h.row i hi) ho fun g hg e => h.pr hi (e ▸ hg), fun i k x hi hx => own_only (h.body i k x hi hx) ho fun g hg e => h.pb hi hx (e ▸ hg), h.rows, h.bodies, h.ge, h.few, h.small⟩, ho⟩
end
/-- a net from s to s' -/
structure NStep (w w' : World) (B p : Nat) (s s' : NS) : Prop where
  at_ : NetAt w' B p s'
  only : Only (NFoot p s) w w'
  foot : ∀ g, NFoot p s' g → NFoot p s g ∨ w.heap.size ≤ g
section
variable {w w1 w' : World} {B p : Nat} {s s1 s' : NS}
theorem NStep.refl (h : NetAt w B p s) : NStep w w B p s s := ⟨h, Only.refl _ _, fun g hg => .inl hg⟩
theorem NStep.of_new (h : NetAt w B p s) (hb : Below w.heap.size w w') : NStep w w' B p s s := ⟨h.new hb, Only.of_new hb, fun g hg => .inl hg⟩
theorem NStep.trans (h : NStep w w1 B p s s1) (k : NStep w1 w' B p s1 s') : NStep w w' B p s s' :=
  ⟨k.at_, h.only.trans' k.only h.foot, fun g hg => by
    rcases k.foot g hg with h1 | h1
    · exact h.foot g h1
    · exact .inr (Nat.le_trans h.only.size h1)⟩
theorem NStep.below (h : NStep w w' B p s s') (ha : NetAt w B p s) (hB : B ≤ w.heap.size) : Below B w w' := h.only.below hB fun g hg => (ha.foot hg).1
end
end Go.Proofs.Ytbclfiollfagmaa
