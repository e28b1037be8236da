/- The walk of NetApart. -/
import Derived.Test.YtbclfiollfagmaaNetFew
namespace Go.Proofs.Ytbclfiollfagmaa
set_option linter.unusedVariables false
open Go.RowKit

abbrev FF (p q : Nat) (s : NS) (d : DS) (g : Nat) : Prop := NFoot p s g ∨ DFoot q d g
def newDS : DS := ⟨none, 0, [], 0⟩
theorem NetAt.rebase {w : World} {B B' p : Nat} {s : NS} (h : NetAt w B p s) (hB : B' ≤ B) : NetAt w B' p s :=
  ⟨h.blk, fun i hi => own_more (h.row i hi) fun g hg => Nat.le_trans hB ((h.row i hi).lt g hg).1, fun i k x hi hx => own_more (h.body i k x hi hx) fun g hg => Nat.le_trans hB ((h.body i k x hi hx).lt g hg).1, h.rows, h.bodies, Nat.le_trans hB h.ge, h.few, h.small⟩
theorem newDS_at (w : World) (B : Nat) (hB : B ≤ w.heap.size) : DocAt (w.alloc (.cells #[.slice none 0 0, .int .i64 0] 44)) B w.heap.size newDS :=
  ⟨Blk.new w _ _, own_nil _ _ _ _, fun x hx => by simp [newDS] at hx, hB, fun x hx => by simp [newDS] at hx⟩
theorem newNS_foot {p g : Nat} (h : NFoot p newNS g) : g = p := by
  rcases h with h | ⟨i, _, h⟩ | ⟨i, k, x, _, hx, _⟩
  · exact h
  · simp [newNS, hdr, Value.ownBlock] at h
  · simp [newNS] at hx
theorem newDS_foot {q g : Nat} (h : DFoot q newDS g) : g = q := by
  rcases h with h | h | ⟨x, hx, _⟩
  · exact h
  · simp [newDS, dhdr, Value.ownBlock] at h
  · simp [newDS] at hx
theorem new_rel : Rel newNS newDS := ⟨fun a b _ _ => by simp [NS.dat, newNS, newDS, way], fun x hx => by simp [newDS] at hx, rfl⟩
theorem new_both {w : World} {B p q : Nat} (hn : NetAt w B p newNS) (hd : DocAt w B q newDS) (hpq : p ≠ q) : Both w B p q newNS newDS 0 :=
  ⟨hn, hd, fun g h1 h2 => hpq ((newNS_foot h1).symm.trans (newDS_foot h2)), new_rel, Nat.le_refl _, Int.le_refl _, Int.le_refl _⟩
theorem Both.more {w : World} {B p q k k' : Nat} {s : NS} {d : DS} (h : Both w B p q s d k) (hk : k ≤ k') : Both w B p q s d k' := ⟨h.net, h.doc, h.apart, h.rel, Nat.le_trans h.rows hk, h.lo, Int.le_trans h.hi (by omega)⟩
/-- two nets, each with its document's, and the calls to come -/
structure Quad (w wr : World) (p1 q1 p2 q2 : Nat) (s1 : NS) (d1 : DS) (s2 : NS) (d2 : DS) (k : Nat) (v : Value) (n : Nat) (xs : List Value) : Prop where
  one : Both wr w.heap.size p1 q1 s1 d1 k
  two : Both wr w.heap.size p2 q2 s2 d2 k
  apart : ∀ g, FF p1 q1 s1 d1 g → ¬ FF p2 q2 s2 d2 g
  row : wr.ownsRow w.heap.size 47 7 v n xs
  free : ∀ g, v.ownBlock = some g → ¬ FF p1 q1 s1 d1 g ∧ ¬ FF p2 q2 s2 d2 g
  below : Below w.heap.size w wr
section
variable {w wr w' : World} {p1 q1 p2 q2 k n : Nat} {s1 s1' s2 s2' : NS} {d1 d1' d2 d2' : DS} {v : Value} {xs : List Value}
theorem Quad.new (h : Quad w wr p1 q1 p2 q2 s1 d1 s2 d2 k v n xs) (hb : Below wr.heap.size wr w') : Quad w w' p1 q1 p2 q2 s1 d1 s2 d2 k v n xs :=
  ⟨h.one.new hb, h.two.new hb, h.apart, own_only h.row (Only.of_new (S := fun _ => False) hb) (fun _ _ h => h), h.free, h.below.trans (hb.mono h.below.size)⟩
theorem Quad.more {k' : Nat} (h : Quad w wr p1 q1 p2 q2 s1 d1 s2 d2 k v n xs) (hk : k ≤ k') : Quad w wr p1 q1 p2 q2 s1 d1 s2 d2 k' v n xs := ⟨h.one.more hk, h.two.more hk, h.apart, h.row, h.free, h.below⟩
theorem BStep.foot {w w' : World} {p q : Nat} {s s' : NS} {d d' : DS} (h : BStep w w' p q s d s' d') {g : Nat} (hg : FF p q s' d' g) : FF p q s d g ∨ w.heap.size ≤ g := by
  rcases hg with hg | hg
  · rcases h.nfoot g hg with h1 | h1
    · exact .inl (.inl h1)
    · exact .inr h1
  · rcases h.dfoot g hg with h1 | h1
    · exact .inl (.inr h1)
    · exact .inr h1
theorem Quad.first (h : Quad w wr p1 q1 p2 q2 s1 d1 s2 d2 k v n xs) (hb : Both w' w.heap.size p1 q1 s1' d1' (k + 1)) (hs : BStep wr w' p1 q1 s1 d1 s1' d1') : Quad w w' p1 q1 p2 q2 s1' d1' s2 d2 (k + 1) v n xs := by
  have hfl : ∀ g, FF p2 q2 s2 d2 g → g < wr.heap.size := fun g hg => (h.two.foot hg).2
  refine ⟨hb, (h.two.only hs.only fun g hg hf => h.apart g hf hg).more (by omega), fun g hg hf => ?_, own_only h.row hs.only fun g hg hf => (h.free g hg).1 hf, fun g hg => ⟨fun hf => ?_, (h.free g hg).2⟩, h.below.trans (hs.only.below h.below.size fun g hg => (h.one.foot hg).1)⟩
  · rcases hs.foot hg with h1 | h1
    · exact h.apart g h1 hf
    · have := hfl g hf
      omega
  · rcases hs.foot hf with h1 | h1
    · exact (h.free g hg).1 h1
    · have := (h.row.lt g hg).2
      omega
theorem Quad.second (h : Quad w wr p1 q1 p2 q2 s1 d1 s2 d2 k v n xs) (k0 : Nat) (hk : k ≤ k0 + 1) (hb : Both w' w.heap.size p2 q2 s2' d2' (k0 + 1)) (hs : BStep wr w' p2 q2 s2 d2 s2' d2') : Quad w w' p1 q1 p2 q2 s1 d1 s2' d2' (k0 + 1) v n xs := by
  have hfl : ∀ g, FF p1 q1 s1 d1 g → g < wr.heap.size := fun g hg => (h.one.foot hg).2
  refine ⟨(h.one.only hs.only fun g hg hf => h.apart g hg hf).more hk, hb, fun g hg hf => ?_, own_only h.row hs.only fun g hg hf => (h.free g hg).2 hf, fun g hg => ⟨(h.free g hg).1, fun hf => ?_⟩, h.below.trans (hs.only.below h.below.size fun g hg => (h.two.foot hg).1)⟩
  · rcases hs.foot hf with h1 | h1
    · exact h.apart g hg h1
    · have := hfl g hg
      omega
  · rcases hs.foot hf with h1 | h1
    · exact (h.free g hg).2 h1
    · have := (h.row.lt g hg).2
      omega
end
/-- the calls that came in, cut: each is right -/
theorem fewOf_ok {r : List NOp} {w : World} {A : Option Addr} (h : InNOps w w.heap.size A r) {n k : Nat} {x : NOp} (hx : (fewOf r n)[k]? = some x) : x.Ok w w.heap.size ∧ x.l.length ≤ 4096 := by
  rw [fewOf, List.getElem?_map, Option.map_eq_some_iff] at hx
  obtain ⟨y, hy, rfl⟩ := hx
  have hm : y ∈ r := List.mem_of_mem_take (List.mem_of_getElem? hy)
  obtain ⟨i, hi⟩ := List.getElem?_of_mem hm
  refine ⟨(h i y hi).2.cut, ?_⟩
  show (y.l.take 200).length ≤ 4096
  rw [List.length_take]
  omega
/-- a call's cells in the row -/
theorem Quad.cells {w wr : World} {p1 q1 p2 q2 k n g c i : Nat} {s1 s2 : NS} {d1 d2 : DS} {l : List NOp} (h : Quad w wr p1 q1 p2 q2 s1 d1 s2 d2 k (.slice (some ⟨g, 0, none⟩) n c) n (opCells l)) (hn : l.length = n) {x : NOp} (hx : l[i]? = some x) :
    wr.cell? ⟨g, i * 7, none⟩ = some (.int .i64 x.kd) ∧ wr.cell? ⟨g, i * 7 + 1, none⟩ = some (.int .i64 x.f) ∧ wr.cell? ⟨g, i * 7 + 2, none⟩ = some (.int .i64 x.t) ∧ wr.cell? ⟨g, i * 7 + 3, none⟩ = some (.int .i64 x.i) ∧ wr.cell? ⟨g, i * 7 + 4, none⟩ = some (.int .i64 x.at_) ∧ wr.cell? ⟨g, i * 7 + 5, none⟩ = some (.int .u8 (x.m.toNat : Int)) ∧ wr.cell? ⟨g, i * 7 + 6, none⟩ = some (.slice x.A x.l.length x.c) := by
  have hi := (List.getElem?_eq_some_iff.1 hx).1
  have hl := opCells_len l
  exact ⟨(h.row.cellAt (i * 7) (by omega)).trans (opCells_at _ i 0 x hx (by omega)), (h.row.cellAt (i * 7 + 1) (by omega)).trans (opCells_at _ i 1 x hx (by omega)), (h.row.cellAt (i * 7 + 2) (by omega)).trans (opCells_at _ i 2 x hx (by omega)), (h.row.cellAt (i * 7 + 3) (by omega)).trans (opCells_at _ i 3 x hx (by omega)), (h.row.cellAt (i * 7 + 4) (by omega)).trans (opCells_at _ i 4 x hx (by omega)), (h.row.cellAt (i * 7 + 5) (by omega)).trans (opCells_at _ i 5 x hx (by omega)), (h.row.cellAt (i * 7 + 6) (by omega)).trans (opCells_at _ i 6 x hx (by omega))⟩
/-- the two nets' ways from here to there are alike -/
def Alike (f t : Int) (s1 s2 : NS) : Prop := ∀ j : Nat, j < 441 → Rt f t → (j : Int) = f * 21 + t → s1.dat j = s2.dat j
theorem Alike.both {f t : Int} {s1 s2 s1' s2' : NS} {o : NOp} (h : Alike f t s1 s2) (h1 : Moved o s1 s1') (h2 : Moved o s2 s2') : Alike f t s1' s2' := fun j hj hr e => by
  rw [h1 j hj, h2 j hj, h j hj hr e]
theorem Alike.left {f t : Int} {s1 s2 s1' : NS} {o : NOp} (h : Alike f t s1 s2) (h1 : Moved o s1 s1') (hne : ¬ (o.f = f ∧ o.t = t)) : Alike f t s1' s2 := fun j hj hr e => by
  rw [h1 j hj, if_neg, h j hj hr e]
  rintro ⟨hr2, e2⟩
  obtain ⟨a1, a2, a3, a4, _⟩ := hr
  obtain ⟨b1, b2, b3, b4, _⟩ := hr2
  exact hne ⟨by omega, by omega⟩
def LookP (l : List UInt8) (sp : Bool) (u : World) (e : Ending) (w' : World) : Prop := ∃ A2 c2, e = .returned (.tuple #[.agg #[.slice A2 l.length c2, .bool sp], .int .i64 0]) ∧ NewRow u w' l A2 c2
/-- nets whose ways are alike are told alike -/
theorem Alike.told {f t : Int} {s1 s2 : NS} (h : Alike f t s1 s2) (hfew : ∀ i, i < 441 → (s1.ways i).ps.length ≤ 48) : ∃ m : Nat, m ≤ 48 ∧ (∀ u B p, NetAt u B p s1 → Calls Try.prog 12 #[.pointer (some ⟨p, 0, none⟩), .int .i64 f, .int .i64 t] u fun e w' => e = .returned (.int .i64 (m : Int)) ∧ u = w') ∧
    (∀ u B p, NetAt u B p s2 → Calls Try.prog 12 #[.pointer (some ⟨p, 0, none⟩), .int .i64 f, .int .i64 t] u fun e w' => e = .returned (.int .i64 (m : Int)) ∧ u = w') ∧
    ∀ j : Nat, j < m → ∃ l sp, (∀ u B p, NetAt u B p s1 → Calls Try.prog 17 #[.pointer (some ⟨p, 0, none⟩), .int .i64 f, .int .i64 t, .int .i64 (j : Int)] u (LookP l sp u)) ∧
      (∀ u B p, NetAt u B p s2 → Calls Try.prog 17 #[.pointer (some ⟨p, 0, none⟩), .int .i64 f, .int .i64 t, .int .i64 (j : Int)] u (LookP l sp u)) := by
  by_cases hr : Rt f t
  · obtain ⟨a, b, rfl, rfl, ha, hb, hab, hlt⟩ := hr.nat
    have he := h (a * 21 + b) hlt hr (by omega)
    have hl : (s1.ways (a * 21 + b)).ps.length = (s2.ways (a * 21 + b)).ps.length := by
      have := congrArg List.length he
      simpa [NS.dat] using this
    refine ⟨(s1.ways (a * 21 + b)).ps.length, hfew _ hlt, fun u B p hu => len_yes B p s1 a b u hu ha hb hab, fun u B p hu => by rw [hl]; exact len_yes B p s2 a b u hu ha hb hab, fun j hj => ?_⟩
    have h1 : (s1.ways (a * 21 + b)).ps[j]? = some (s1.ways (a * 21 + b)).ps[j] := List.getElem?_eq_getElem hj
    have h2 : (s2.ways (a * 21 + b)).ps[j]? = some ((s2.ways (a * 21 + b)).ps[j]'(by omega)) := List.getElem?_eq_getElem (by omega)
    have h3 : pdat (s1.ways (a * 21 + b)).ps[j] = pdat ((s2.ways (a * 21 + b)).ps[j]'(by omega)) := by
      have := congrArg (fun L : List Dt => L[j]?) he
      simp only [NS.dat, List.getElem?_map, h1, h2] at this
      exact Option.some.inj this
    generalize (s1.ways (a * 21 + b)).ps[j] = x at h1 h3
    generalize (s2.ways (a * 21 + b)).ps[j]'(by omega) = y at h2 h3
    simp only [pdat, Prod.mk.injEq] at h3
    refine ⟨x.1.1, x.2, fun u B p hu => look_yes B p s1 a b j x u hu ha hb hab h1, fun u B p hu => ?_⟩
    rw [h3.1, h3.2]
    exact look_yes B p s2 a b j y u hu ha hb hab h2
  · exact ⟨0, Nat.zero_le _, fun u B p hu => len_no p f t u hr, fun u B p hu => len_no p f t u hr, fun j hj => absurd hj (Nat.not_lt_zero _)⟩
end Go.Proofs.Ytbclfiollfagmaa
