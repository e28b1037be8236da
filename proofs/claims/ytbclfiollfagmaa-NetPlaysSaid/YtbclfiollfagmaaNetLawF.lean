/- The rounds of NetPlays. -/
import Derived.Test.YtbclfiollfagmaaNetLawD
import Derived.Test.YtbclfiollfagmaaNetRefWays
namespace Go.Proofs.Ytbclfiollfagmaa
set_option linter.unusedVariables false
open Go.RowKit

/-- a net and its document's, the calls to come, and the cell of the result -/
structure Duo (w wr : World) (p q : Nat) (s : NS) (d : DS) (k : Nat) (v : Value) (n : Nat) (xs : List Value) : Prop where
  one : Both wr w.heap.size p q s d k
  row : wr.ownsRow w.heap.size 47 7 v n xs
  free : ∀ g, v.ownBlock = some g → ¬ FF p q s d g
  res : Blk wr w.heap.size 4 #[.bool false]
  rfree : ¬ FF p q s d w.heap.size
  below : Below w.heap.size w wr
section
variable {w wr w' : World} {p q k n : Nat} {s s' : NS} {d d' : DS} {v : Value} {xs : List Value}
theorem Duo.new (h : Duo w wr p q s d k v n xs) (hb : Below wr.heap.size wr w') : Duo w w' p q s d k v n xs :=
  ⟨h.one.new hb, own_only h.row (Only.of_new (S := fun _ => False) hb) (fun _ _ h => h), h.free, h.res.below hb h.res.lt, h.rfree, h.below.trans (hb.mono h.below.size)⟩
theorem Duo.step (h : Duo w wr p q s d k v n xs) (hb : Both w' w.heap.size p q s' d' (k + 1)) (hs : BStep wr w' p q s d s' d') : Duo w w' p q s' d' (k + 1) v n xs := by
  refine ⟨hb, own_only h.row hs.only fun g hg hf => h.free g hg hf, fun g hg hf => ?_, h.res.only hs.only h.rfree, fun hf => ?_, h.below.trans (hs.only.below h.below.size fun g hg => (h.one.foot hg).1)⟩
  · rcases hs.foot hf with h1 | h1
    · exact h.free g hg h1
    · have := (h.row.lt g hg).2
      omega
  · rcases hs.foot hf with h1 | h1
    · exact h.rfree h1
    · have := h.res.lt
      omega
theorem Duo.cells {g c i : Nat} {l : List NOp} (h : Duo w wr p q s d k (.slice (some ⟨g, 0, none⟩) n c) n (opCells l)) (hn : l.length = n) {x : NOp} (hx : l[i]? = some x) :
    wr.cell? ⟨g, i * 7, none⟩ = some (.int .i64 x.kd) ∧ wr.cell? ⟨g, i * 7 + 1, none⟩ = some (.int .i64 x.f) ∧ wr.cell? ⟨g, i * 7 + 2, none⟩ = some (.int .i64 x.t) ∧ wr.cell? ⟨g, i * 7 + 3, none⟩ = some (.int .i64 x.i) ∧ wr.cell? ⟨g, i * 7 + 4, none⟩ = some (.int .i64 x.at_) ∧ wr.cell? ⟨g, i * 7 + 5, none⟩ = some (.int .u8 (x.m.toNat : Int)) ∧ wr.cell? ⟨g, i * 7 + 6, none⟩ = some (.slice x.A x.l.length x.c) := by
  have hi := (List.getElem?_eq_some_iff.1 hx).1
  have hl := opCells_len l
  exact ⟨(h.row.cellAt (i * 7) (by omega)).trans (opCells_at _ i 0 x hx (by omega)), (h.row.cellAt (i * 7 + 1) (by omega)).trans (opCells_at _ i 1 x hx (by omega)), (h.row.cellAt (i * 7 + 2) (by omega)).trans (opCells_at _ i 2 x hx (by omega)), (h.row.cellAt (i * 7 + 3) (by omega)).trans (opCells_at _ i 3 x hx (by omega)), (h.row.cellAt (i * 7 + 4) (by omega)).trans (opCells_at _ i 4 x hx (by omega)), (h.row.cellAt (i * 7 + 5) (by omega)).trans (opCells_at _ i 5 x hx (by omega)), (h.row.cellAt (i * 7 + 6) (by omega)).trans (opCells_at _ i 6 x hx (by omega))⟩
end
/-- how many there are on a way, of both -/
theorem Rel.lens {s : NS} {d : DS} (h : Rel s d) (f t : Int) : ∃ m : Nat, (∀ u B p, NetAt u B p s → Calls Try.prog 12 #[.pointer (some ⟨p, 0, none⟩), .int .i64 f, .int .i64 t] u fun e w' => e = .returned (.int .i64 (m : Int)) ∧ u = w') ∧
    (∀ u B q, DocAt u B q d → d.row.length ≤ 100000 → Calls Try.prog 22 #[.pointer (some ⟨q, 0, none⟩), .int .i64 f, .int .i64 t] u fun e w' => e = .returned (.int .i64 (m : Int)) ∧ u = w') := by
  by_cases hr : Rt f t
  · obtain ⟨a, b, rfl, rfl, ha, hb, hab, hlt⟩ := hr.nat
    have he := congrArg List.length (h.ways a b ha hb)
    simp only [NS.dat, List.length_map] at he
    exact ⟨(s.ways (a * 21 + b)).ps.length, fun u B p hu => len_yes B p s a b u hu ha hb hab, fun u B q hu hs => by rw [he]; exact dlen_any B q d a b u hu hs⟩
  · refine ⟨0, fun u B p hu => len_no p f t u hr, fun u B q hu hs => ?_⟩
    have e : way f t d.row = [] := by
      rw [way, List.filter_eq_nil_iff]
      intro x hx hc
      have hc : x.1 = (f, t) := by simpa using hc
      have h1 := h.right x hx
      rw [hc] at h1
      exact hr h1
    have := dlen_any B q d f t u hu hs
    rw [e] at this
    exact this
theorem Rel.wlen {s : NS} {d : DS} (h : Rel s d) : ∀ a b : Nat, a ≤ 20 → b ≤ 20 → (way a b d.row).length = (s.ways (a * 21 + b)).ps.length := fun a b ha hb => by
  have he := congrArg List.length (h.ways a b ha hb)
  simpa [NS.dat] using he.symm
end Go.Proofs.Ytbclfiollfagmaa
