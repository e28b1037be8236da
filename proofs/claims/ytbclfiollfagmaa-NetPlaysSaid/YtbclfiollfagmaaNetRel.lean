/- Net and document's net, side by side: what holds of both; what a call makes of a way. -/
import Derived.Test.YtbclfiollfagmaaNetRefSpoil
import Derived.Test.YtbclfiollfagmaaNetOpen
namespace Go.Proofs.Ytbclfiollfagmaa
set_option linter.unusedVariables false
open Go.RowKit

abbrev Dt := List UInt8 × Bool
def pdat (x : Pk) : Dt := (x.1.1, x.2)
def ddat (x : DP) : Dt := pdat x.2
def NS.dat (s : NS) (j : Nat) : List Dt := (s.ways j).ps.map pdat
structure Rel (s : NS) (d : DS) : Prop where
  ways : ∀ a b : Nat, a ≤ 20 → b ≤ 20 → s.dat (a * 21 + b) = (way a b d.row).map ddat
  right : ∀ x ∈ d.row, Rt x.1.1 x.1.2
  lost : s.lost = d.lost
/-- the place of a call is one on its way -/
def NOp.On (o : NOp) (L : List Dt) : Prop := 0 ≤ o.i ∧ o.i < (L.length : Int)
instance (o : NOp) (L : List Dt) : Decidable (o.On L) := by unfold NOp.On; infer_instance
def NOp.bad (o : NOp) (x : Dt) : Prop := o.at_ < 0 ∨ (x.1.length : Int) ≤ o.at_ ∨ o.m = 0
instance (o : NOp) (x : Dt) : Decidable (o.bad x) := by unfold NOp.bad; infer_instance
/-- what a call makes of its way -/
def wayDo (o : NOp) (L : List Dt) : List Dt :=
  if o.kd = 1 then (if 48 ≤ L.length then L else L ++ [(o.l, false)])
  else if o.On L then
    let x := L.getD o.i.toNat ([], false)
    if o.kd = 2 then L.eraseIdx o.i.toNat
    else if o.kd = 3 then L.eraseIdx o.i.toNat
    else if o.kd = 4 then (if 48 ≤ L.length then L else L ++ [x])
    else if o.kd = 5 then L.eraseIdx o.i.toNat ++ [x]
    else if o.kd = 6 then (if o.bad x ∨ x.2 = true then L else L.set o.i.toNat (x.1.set o.at_.toNat (x.1[o.at_.toNat]! ^^^ o.m), true))
    else L
  else L
/-- what a call makes of a net, way by way -/
def Moved (o : NOp) (s s' : NS) : Prop := ∀ j, j < 441 → s'.dat j = if Rt o.f o.t ∧ (j : Int) = o.f * 21 + o.t then wayDo o (s.dat j) else s.dat j
structure After (o : NOp) (s : NS) (d : DS) (s' : NS) (d' : DS) : Prop where
  rel : Rel s' d'
  rows : d'.row.length ≤ d.row.length + 1
  lo : 0 ≤ d.lost → 0 ≤ d'.lost
  hi : d'.lost ≤ d.lost + 1
  moved : Moved o s s'
section
variable {o : NOp} {s s' : NS} {d d' : DS} {a b : Nat}
theorem NS.dat_put (s : NS) (i : Nat) (y : Wy) : (s.put i y).dat i = y.ps.map pdat := by rw [NS.dat, NS.put_same]
theorem NS.dat_other (s : NS) {i j : Nat} (y : Wy) (h : j ≠ i) : (s.put i y).dat j = s.dat j := by rw [NS.dat, NS.put_other s y h, NS.dat]
/-- nothing is changed -/
theorem After.still (h : Rel s d) (hd : ∀ L, Rt o.f o.t → (∃ j : Nat, (j : Int) = o.f * 21 + o.t ∧ s.dat j = L) → wayDo o L = L) : After o s d s d :=
  ⟨h, by omega, id, by omega, fun j hj => by
    split
    · rename_i hc
      rw [hd _ hc.1 ⟨j, hc.2, rfl⟩]
    · rfl⟩
/-- a way is changed, in both -/
theorem After.put (h : Rel s d) (hf : o.f = a) (ht : o.t = b) (ha : a ≤ 20) (hb : b ≤ 20) (hab : a ≠ b) (y : Wy) (n : Int) (r : List DP) (A : Option Addr) (c : Nat) (hn : n = s.lost ∨ n = s.lost + 1)
    (hy : y.ps.map pdat = wayDo o (s.dat (a * 21 + b))) (hr : (way a b r).map ddat = wayDo o (s.dat (a * 21 + b))) (ho : ∀ f t : Int, (f, t) ≠ ((a : Int), (b : Int)) → way f t r = way f t d.row) (hrt : ∀ x ∈ r, Rt x.1.1 x.1.2) (hl : r.length ≤ d.row.length + 1) :
    After o s d { s.put (a * 21 + b) y with lost := n } ⟨A, c, r, n⟩ := by
  have hdat : ∀ j, ({ s.put (a * 21 + b) y with lost := n } : NS).dat j = (s.put (a * 21 + b) y).dat j := fun _ => rfl
  have hlost := h.lost
  refine ⟨⟨fun a' b' ha' hb' => ?_, hrt, rfl⟩, hl, fun h0 => by show 0 ≤ n; omega, by show n ≤ d.lost + 1; omega, fun j hj => ?_⟩
  · rw [hdat]
    by_cases e : a' = a ∧ b' = b
    · obtain ⟨rfl, rfl⟩ := e
      rw [NS.dat_put, hy]
      exact hr.symm
    · rw [NS.dat_other s y (by omega), h.ways a' b' ha' hb']
      show _ = (way a' b' r).map ddat
      rw [ho a' b' (fun e2 => e (by injection e2 with e3 e4; omega))]
  · rw [hdat]
    by_cases e : j = a * 21 + b
    · subst e
      rw [if_pos ⟨by rw [hf, ht]; exact ⟨by omega, by omega, by omega, by omega, by omega⟩, by rw [hf, ht]; omega⟩, NS.dat_put, hy]
    · rw [if_neg (fun hc => e (by have := hc.2; rw [hf, ht] at this; omega)), NS.dat_other s y e]
end
theorem way_split_at (f t : Int) (pre post : List DP) (y : DP) (hy : y.1 = (f, t)) : way f t (pre ++ y :: post) = way f t pre ++ y :: way f t post := by
  rw [way_app, show y :: post = [y] ++ post from rfl, way_app, way_one_yes f t y hy]
  rfl
theorem way_cut_other (f t f' t' : Int) (pre post : List DP) (y : DP) (hy : y.1 = (f, t)) (h : (f', t') ≠ (f, t)) : way f' t' (pre ++ post) = way f' t' (pre ++ y :: post) := by
  rw [way_app, way_app, show y :: post = [y] ++ post from rfl, way_app, way_one_no f' t' y (fun e => h (by rw [← e, hy]))]
  rfl
theorem way_set_other (f t f' t' : Int) (pre post : List DP) (y z : DP) (hy : y.1 = (f, t)) (hz : z.1 = (f, t)) (h : (f', t') ≠ (f, t)) : way f' t' (pre ++ z :: post) = way f' t' (pre ++ y :: post) := by
  rw [← way_cut_other f t f' t' pre post y hy h, ← way_cut_other f t f' t' pre post z hz h]
theorem way_push_other (f t f' t' : Int) (r : List DP) (y : DP) (hy : y.1 = (f, t)) (h : (f', t') ≠ (f, t)) : way f' t' (r ++ [y]) = way f' t' r := by
  rw [way_app, way_one_no f' t' y (fun e => h (by rw [← e, hy])), List.append_nil]
theorem erase_mid {α : Type} (P S : List α) (y : α) : (P ++ y :: S).eraseIdx P.length = P ++ S := by
  rw [List.eraseIdx_append_of_length_le (Nat.le_refl _), Nat.sub_self]
  rfl
theorem set_mid {α : Type} (P S : List α) (y z : α) : (P ++ y :: S).set P.length z = P ++ z :: S := by
  rw [List.set_append_right _ _ (Nat.le_refl _), Nat.sub_self]
  rfl
theorem getD_mid {α : Type} (P S : List α) (y z : α) : (P ++ y :: S).getD P.length z = y := by
  rw [List.getD_eq_getElem?_getD, List.getElem?_append_right (Nat.le_refl _), Nat.sub_self]
  rfl
theorem map_erase {α β : Type} (f : α → β) : ∀ (l : List α) (k : Nat), (l.eraseIdx k).map f = (l.map f).eraseIdx k
  | [], _ => rfl
  | _ :: _, 0 => rfl
  | x :: l, k + 1 => by simp [map_erase f l k]
/-- the packet of a place: in both -/
structure Found (o : NOp) (s : NS) (d : DS) (a b k : Nat) (x : Pk) (pre post : List DP) (y : DP) : Prop where
  i : o.i = k
  x_ : (s.ways (a * 21 + b)).ps[k]? = some x
  row : d.row = pre ++ y :: post
  y_ : y.1 = ((a : Int), (b : Int))
  k_ : (way a b pre).length = k
  same : pdat x = ddat y
  dat : s.dat (a * 21 + b) = (way a b pre).map ddat ++ ddat y :: (way a b post).map ddat
theorem Rel.found {o : NOp} {s : NS} {d : DS} {a b : Nat} (h : Rel s d) (ha : a ≤ 20) (hb : b ≤ 20) (ho : o.On (s.dat (a * 21 + b))) : ∃ k x pre post y, Found o s d a b k x pre post y := by
  obtain ⟨h0, h1⟩ := ho
  have hw := h.ways a b ha hb
  have hl : (s.dat (a * 21 + b)).length = (way a b d.row).length := by rw [hw, List.length_map]
  obtain ⟨pre, y, post, e1, e2, e3⟩ := way_split a b d.row o.i.toNat (by omega)
  have hd : s.dat (a * 21 + b) = (way a b pre).map ddat ++ ddat y :: (way a b post).map ddat := by rw [hw, e1, way_split_at a b pre post y e2, List.map_append, List.map_cons]
  have hlen : o.i.toNat < (s.ways (a * 21 + b)).ps.length := by
    have : (s.dat (a * 21 + b)).length = (s.ways (a * 21 + b)).ps.length := by rw [NS.dat, List.length_map]
    omega
  refine ⟨o.i.toNat, (s.ways (a * 21 + b)).ps[o.i.toNat], pre, post, y, by omega, List.getElem?_eq_getElem hlen, e1, e2, e3, ?_, hd⟩
  have g1 : (s.dat (a * 21 + b))[o.i.toNat]? = some (pdat (s.ways (a * 21 + b)).ps[o.i.toNat]) := by rw [NS.dat, List.getElem?_map, List.getElem?_eq_getElem hlen]; rfl
  have g2 : (s.dat (a * 21 + b))[o.i.toNat]? = some (ddat y) := by
    rw [hd, List.getElem?_append_right (by rw [List.length_map]; omega)]
    simp [e3]
  rw [g1] at g2
  exact Option.some.inj g2
section
variable {o : NOp} {s : NS} {d : DS} {a b k : Nat} {x : Pk} {pre post : List DP} {y : DP}
theorem Found.on (h : Found o s d a b k x pre post y) : o.On (s.dat (a * 21 + b)) := by
  refine ⟨by rw [h.i]; omega, ?_⟩
  rw [h.i, h.dat]
  simp [h.k_]
  omega
theorem Found.getD (h : Found o s d a b k x pre post y) : (s.dat (a * 21 + b)).getD o.i.toNat ([], false) = ddat y := by
  rw [h.dat, h.i, Int.toNat_natCast, ← h.k_]
  have := getD_mid ((way a b pre).map ddat) ((way a b post).map ddat) (ddat y) ([], false)
  rwa [List.length_map] at this
theorem Found.erase (h : Found o s d a b k x pre post y) : (s.dat (a * 21 + b)).eraseIdx o.i.toNat = (way a b (pre ++ post)).map ddat := by
  rw [h.dat, h.i, Int.toNat_natCast, ← h.k_, way_app, List.map_append]
  have := erase_mid ((way a b pre).map ddat) ((way a b post).map ddat) (ddat y)
  rwa [List.length_map] at this
theorem Found.set (h : Found o s d a b k x pre post y) (z : DP) (hz : z.1 = ((a : Int), (b : Int))) : (s.dat (a * 21 + b)).set o.i.toNat (ddat z) = (way a b (pre ++ z :: post)).map ddat := by
  rw [h.dat, h.i, Int.toNat_natCast, ← h.k_, way_split_at _ _ _ _ _ hz, List.map_append, List.map_cons]
  have := set_mid ((way a b pre).map ddat) ((way a b post).map ddat) (ddat y) (ddat z)
  rwa [List.length_map] at this
theorem Found.erasePs (h : Found o s d a b k x pre post y) : ((s.ways (a * 21 + b)).ps.eraseIdx k).map pdat = (s.dat (a * 21 + b)).eraseIdx o.i.toNat := by
  rw [h.i, Int.toNat_natCast, NS.dat, map_erase]
theorem Found.rt (h : Found o s d a b k x pre post y) (hr : Rel s d) : (∀ z ∈ pre ++ post, Rt z.1.1 z.1.2) ∧ Rt y.1.1 y.1.2 := by
  refine ⟨fun z hz => hr.right z ?_, hr.right y (by rw [h.row]; simp)⟩
  rw [h.row]
  rcases List.mem_append.1 hz with h1 | h1
  · exact List.mem_append_left _ h1
  · exact List.mem_append_right _ (List.mem_cons_of_mem _ h1)
end
end Go.Proofs.Ytbclfiollfagmaa
