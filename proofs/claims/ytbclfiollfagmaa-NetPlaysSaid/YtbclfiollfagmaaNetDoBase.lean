/- One call of both nets: what holds of both, ahead and behind. -/
import Derived.Test.YtbclfiollfagmaaNetPairT
import Derived.Deep.RegionHeld3
namespace Go.Proofs.Ytbclfiollfagmaa
set_option linter.unusedVariables false
open Go.RowKit

/-- a net and a document's net beside it -/
structure Both (w : World) (B p q : Nat) (s : NS) (d : DS) (k : Nat) : Prop where
  net : NetAt w B p s
  doc : DocAt w B q d
  apart : ∀ g, NFoot p s g → ¬ DFoot q d g
  rel : Rel s d
  rows : d.row.length ≤ k
  lo : 0 ≤ d.lost
  hi : d.lost ≤ (k : Int)
structure BStep (w w' : World) (p q : Nat) (s : NS) (d : DS) (s' : NS) (d' : DS) : Prop where
  only : Only (fun g => NFoot p s g ∨ DFoot q d g) w w'
  nfoot : ∀ g, NFoot p s' g → NFoot p s g ∨ w.heap.size ≤ g
  dfoot : ∀ g, DFoot q d' g → DFoot q d g ∨ w.heap.size ≤ g
section
variable {w w0 w1 w2 w' : World} {B p q k : Nat} {s s' : NS} {d d' : DS} {o : NOp}
theorem Both.new (h : Both w B p q s d k) (hb : Below w.heap.size w w') : Both w' B p q s d k := ⟨h.net.new hb, h.doc.new hb, h.apart, h.rel, h.rows, h.lo, h.hi⟩
theorem Both.only {S : Nat → Prop} (h : Both w B p q s d k) (ho : Only S w w') (hs : ∀ g, NFoot p s g ∨ DFoot q d g → ¬ S g) : Both w' B p q s d k := ⟨h.net.only ho fun g hg => hs g (.inl hg), h.doc.only ho fun g hg => hs g (.inr hg), h.apart, h.rel, h.rows, h.lo, h.hi⟩
theorem Both.foot (h : Both w B p q s d k) {g : Nat} (hg : NFoot p s g ∨ DFoot q d g) : B ≤ g ∧ g < w.heap.size := by
  rcases hg with hg | hg
  · exact h.net.foot hg
  · exact h.doc.foot hg
theorem BStep.below (h : BStep w w' p q s d s' d') (ha : Both w B p q s d k) : Below B w w' := h.only.below ha.net.base fun g hg => (ha.foot hg).1
theorem Both.docOf (h : Both w B p q s d k) (h1 : NStep w w1 B p s s') : DocAt w1 B q d := h.doc.only h1.only fun g hg hf => h.apart g hf hg
/-- first the net, then the document's -/
theorem Both.done (h : Both w B p q s d k) (h1 : NStep w w1 B p s s') (h2 : DStep w1 w2 B q d d') (ha : After o s d s' d') : Both w2 B p q s' d' (k + 1) ∧ BStep w w2 p q s d s' d' := by
  have hrows := h.rows
  have hhi := h.hi
  have h3 := ha.rows
  have h4 := ha.hi
  have hs := h1.only.size
  refine ⟨⟨h1.at_.only h2.only fun g hg hf => ?_, h2.at_, fun g hg hf => ?_, ha.rel, by omega, ha.lo h.lo, by omega⟩, ⟨(h1.only.mono fun g _ hg => .inl hg).trans (h2.only.mono fun g _ hg => .inr hg), h1.foot, fun g hg => ?_⟩⟩
  · rcases h1.foot g hg with h5 | h5
    · exact h.apart g h5 hf
    · have := (h.doc.foot hf).2
      omega
  · have hlt := (h1.at_.foot hg).2
    rcases h2.foot g hf with h6 | h6
    · rcases h1.foot g hg with h5 | h5
      · exact h.apart g h5 h6
      · have := (h.doc.foot h6).2
        omega
    · omega
  · rcases h2.foot g hg with h6 | h6
    · exact .inl h6
    · exact .inr (by omega)
def DoneP (w : World) (B p q k : Nat) (s : NS) (d : DS) (o : NOp) (e : Ending) (w' : World) : Prop := e = .returned (.bool true) ∧ ∃ s' d', Both w' B p q s' d' (k + 1) ∧ BStep w w' p q s d s' d' ∧ Moved o s s'
theorem BStep.of_new (hb : Below w.heap.size w w0) (h : BStep w0 w' p q s d s' d') : BStep w w' p q s d s' d' :=
  ⟨(Only.of_new hb).trans h.only, fun g hg => by
    rcases h.nfoot g hg with h1 | h1
    · exact .inl h1
    · exact .inr (Nat.le_trans hb.size h1), fun g hg => by
    rcases h.dfoot g hg with h1 | h1
    · exact .inl h1
    · exact .inr (Nat.le_trans hb.size h1)⟩
/-- behind: new blocks, and writes into blocks that are later than both -/
theorem Both.beside (h : Both w1 B p q s' d' k) (hst : BStep w w1 p q s d s' d') (hb : Below w1.heap.size w1 w2) : Both w2 B p q s' d' k ∧ BStep w w2 p q s d s' d' := ⟨h.new hb, hst.only.trans (Only.of_new hb), hst.nfoot, hst.dfoot⟩
end
theorem opAt {w : World} {g : Nat} {ty : TypeId} {kd f t i at_ : Int} {m : UInt8} {v : Value} (h : Blk w g ty #[.int .i64 kd, .int .i64 f, .int .i64 t, .int .i64 i, .int .i64 at_, .int .u8 (m.toNat : Int), v]) :
    w.cell? ⟨g, 0, none⟩ = some (.int .i64 kd) ∧ w.cell? ⟨g, 1, none⟩ = some (.int .i64 f) ∧ w.cell? ⟨g, 2, none⟩ = some (.int .i64 t) ∧ w.cell? ⟨g, 3, none⟩ = some (.int .i64 i) ∧ w.cell? ⟨g, 4, none⟩ = some (.int .i64 at_) ∧ w.cell? ⟨g, 5, none⟩ = some (.int .u8 (m.toNat : Int)) ∧ w.cell? ⟨g, 6, none⟩ = some v :=
  ⟨h.cell 0, h.cell 1, h.cell 2, h.cell 3, h.cell 4, h.cell 5, h.cell 6⟩
end Go.Proofs.Ytbclfiollfagmaa
