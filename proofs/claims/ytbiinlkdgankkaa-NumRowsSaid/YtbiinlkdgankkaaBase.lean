/- Plain lemmas of memory and bytes, over no function: what the walks of this seat use. -/
import Derived.Test.YtbiinlkdgankkaaRows
import Derived.WalkKit
import Derived.WalkSpells
import Derived.WalkLawsBesides
import Derived.ProofKit
import Derived.OpenShut
import Derived.Below
import Derived.Lib.Hide
import Derived.Laws.OwnMore
import Derived.Deep.AppendLies
import Derived.Deep.Draws
import Derived.Lib.SlBytesConst
import Derived.Deep.QuietTactic
import Derived.BigQuiet
import Derived.RegionTactic
import Derived.Deep.DeepCutAuto
import Derived.BigRegion
import Derived.Laws.Rows
namespace Go.Proofs.Ytbiinlkdgankkaa
set_option linter.unusedVariables false
open Go.RowKit

theorem ret_eq {a b : Value} (h : a = b) : Ending.returned a = Ending.returned b := by rw [h]
theorem hide {p : Prop} (h : p) : Hid p := h
theorem unhide {p : Prop} (h : Hid p) : p := h

/-- a byte as a value -/
def Bv (b : UInt8) : Value := .int .u8 (b.toNat : Int)

theorem block_of_add (a : Addr) (n : Nat) : (a.add n).block = a.block := by unfold Addr.add; split <;> rfl
theorem add_of_add (a : Addr) (i j : Nat) : (a.add i).add j = a.add (i + j) := by
  unfold Addr.add
  by_cases hi : i = 0 <;> by_cases hj : j = 0 <;> simp [hi, hj, Nat.add_assoc]

theorem take_mid {α : Type} (l : List α) {t m : Nat} (h : t ≤ m) : l.take t ++ (l.drop t).take (m - t) = l.take m := by
  have e : l.take m = l.take (t + (m - t)) := by congr 1; omega
  rw [e, List.take_add]

/-- the slice value '.slice A l.length c' reads as the bytes l in w, in blocks below B -/
def RdB (w : World) (B : Nat) (A : Option Addr) (l : List UInt8) : Prop :=
  0 < l.length → ∃ ad, A = some ad ∧ ad.block < B ∧ ∀ j b, l[j]? = some b → w.cell? (ad.add j) = some (Bv b)

section
variable {w w' : World} {B B' : Nat} {A : Option Addr} {l : List UInt8}
theorem RdB.nil : RdB w B A [] := fun h => absurd h (by simp)
theorem RdB.take_at {k n : Nat} (h : RdB w B A (l.take n)) (hk : k < n) (hn : n ≤ l.length) : ∃ ad, A = some ad ∧ w.cell? (ad.add k) = some (.int .u8 ((l[k]'(by omega)).toNat : Int)) := by
  obtain ⟨ad, e, _, hc⟩ := h (by simp; omega)
  exact ⟨ad, e, hc k _ (by rw [List.getElem?_take_of_lt hk, List.getElem?_eq_getElem])⟩
theorem RdB.at_ {k : Nat} (h : RdB w B A l) (hk : k < l.length) : ∃ ad, A = some ad ∧ w.cell? (ad.add k) = some (.int .u8 (l[k].toNat : Int)) := by
  obtain ⟨ad, e, _, hc⟩ := h (by omega)
  exact ⟨ad, e, hc k _ (List.getElem?_eq_getElem hk)⟩
theorem RdB.keep (h : RdB w B A l) (hk : ∀ p : Addr, p.block < B → w'.cell? p = w.cell? p) : RdB w' B A l := fun hn => by
    obtain ⟨ad, e, hb, hc⟩ := h hn
    exact ⟨ad, e, hb, fun j u hu => (hk _ (by rw [block_of_add]; exact hb)).trans (hc j u hu)⟩
theorem RdB.more (h : RdB w B A l) (hB : B ≤ B') : RdB w B' A l := fun hn => by
    obtain ⟨ad, e, hb, hc⟩ := h hn
    exact ⟨ad, e, by omega, hc⟩
theorem RdB.below (h : RdB w B A l) (hb : Below B w w') : RdB w' B A l := h.keep fun _ hp => hb.cell hp
theorem RdB.drew (h : RdB w B A l) : RdB w.drew B A l := h
theorem RdB.drewN (h : RdB w B A l) (k : Nat) : RdB (w.drewN k) B A l := h
theorem RdB.alloc (h : RdB w B A l) (hB : B ≤ w.heap.size) (o : Obj) : RdB (w.alloc o) B A l := h.keep fun p hp => World.cell?_alloc_lt w o p (by omega)
theorem RdB.setCell (h : RdB w B A l) {p : Addr} (hB : B ≤ p.block) (u : Value) : RdB (w.setCell p u) B A l :=
  h.keep fun q hq => World.cell?_setCell_other w p q u (fun e => by subst e; omega)
theorem RdB.grown (h : RdB w B A l) {row : Option Nat} (hg : w.grownBy w' row) (hB : B ≤ w.heap.size) (hr : ∀ g, row = some g → B ≤ g) : RdB w' B A l :=
  h.keep fun p hp => World.cell?_of_block (hg.block p.block (by omega) (fun e => by have := hr _ e.symm; omega))
theorem RdB.take (h : RdB w B A l) (k : Nat) : RdB w B A (l.take k) := fun hn => by
  have hl : (l.take k).length ≤ l.length := by simp; omega
  obtain ⟨ad, e, hb, hc⟩ := h (by omega)
  exact ⟨ad, e, hb, fun j u hu => hc j u (by rw [List.getElem?_take] at hu; split at hu <;> simp_all)⟩
theorem RdB.off (h : RdB w B A l) (k : Nat) : RdB w B (A.map (·.add k)) (l.drop k) := fun hn => by
  rw [List.length_drop] at hn
  obtain ⟨ad, rfl, hb, hcell⟩ := h (by omega)
  refine ⟨ad.add k, rfl, by rw [block_of_add]; exact hb, fun j u hu => ?_⟩
  rw [add_of_add]
  exact hcell _ u (by rw [← hu, List.getElem?_drop])
theorem RdB.mid (h : RdB w B A l) (k m : Nat) : RdB w B (A.map (·.add k)) ((l.drop k).take m) := (h.off k).take m
theorem RdB.cut (h : RdB w B A l) {k cap : Nat} (hk : k ≤ l.length) (hc : l.length ≤ cap) :
    RdB w B (if cap = k then A else A.map (·.add k)) (l.drop k) := fun hn => by
  rw [List.length_drop] at hn
  obtain ⟨ad, rfl, hb, hcell⟩ := h (by omega)
  rw [if_neg (by omega)]
  refine ⟨ad.add k, rfl, by rw [block_of_add]; exact hb, fun j u hu => ?_⟩
  rw [add_of_add]
  exact hcell _ u (by rw [← hu, List.getElem?_drop])
end

theorem cell_new (w : World) (C : Array Value) (e : TypeId) (fr : Nat × Nat) (i : Nat) : (w.alloc (.cells C e fr)).cell? ⟨w.heap.size, i, none⟩ = C[i]? := by
  unfold World.cell? World.alloc
  simp
theorem add_zero_off (b i : Nat) : (⟨b, 0, none⟩ : Addr).add i = ⟨b, i, none⟩ := by
  unfold Addr.add
  split
  · rename_i h; subst h; rfl
  · simp
/-- a new block of bytes reads as them -/
theorem RdB.new (w : World) (C : Array Value) (e : TypeId) (fr : Nat × Nat) (l : List UInt8) (h : C.toList = l.map Bv) :
    RdB (w.alloc (.cells C e fr)) (w.heap.size + 1) (some ⟨w.heap.size, 0, none⟩) l := fun _ => by
  refine ⟨_, rfl, by simp, fun j b hj => ?_⟩
  rw [add_zero_off, cell_new, ← Array.getElem?_toList, h, List.getElem?_map, hj]
  rfl

/-! ### A region that draws its order, whose operations read, or call what makes memory of its own: one walk of the text's order -/
/-- a world in which what lay below block B in W is as it was -/
structure SinceW (B : Nat) (W : World) where
  w : World
  h : Below B W w
instance (B : Nat) (W : World) : Nonempty (SinceW B W) := ⟨⟨W, Below.refl _ _⟩⟩
theorem wp_region_since {P : Program} {id : Nat} {Q : Exit → Act → World → Prop} {a : Act} {w : World} {l : List Oper} (B : Nat) (hm : P.follows .mixedOrders = true) (hB : Region.lexB .any l.toArray = true)
    (h : wpQuiet P l.toArray (fun w' => ∃ x : SinceW B w, w' = x.w) (fun a' => ∀ w', (∃ x : SinceW B w, w' = x.w) → Q .normal a' w') l a) : (Code.region id l.toArray true).wp P Q a w :=
  wp_region_quiet (C := fun w' => ∃ x : SinceW B w, w' = x.w) hm hB ⟨⟨w.drew, (Below.refl _ _).drew⟩, rfl⟩ (by simpa using h)
theorem calls_since {P : Program} {f : FuncId} {args : Array Value} {B : Nat} {W : World} (x : SinceW B W) {v : Value} (hB : B ≤ W.heap.size)
    (h : Calls P f args x.w fun e w' => e = .returned v ∧ Below x.w.heap.size x.w w') : Calls P f args x.w fun e w'' => e = .returned v ∧ ∃ y : SinceW B W, w'' = y.w :=
  h.mono fun _ w' ⟨he, hb⟩ => ⟨he, ⟨w', x.h.trans (hb.mono (Nat.le_trans hB x.h.size))⟩, rfl⟩
theorem calls_since_same {P : Program} {f : FuncId} {args : Array Value} {B : Nat} {W : World} (x : SinceW B W) {v : Value}
    (h : Calls P f args x.w fun e w' => e = .returned v ∧ x.w = w') : Calls P f args x.w fun e w'' => e = .returned v ∧ ∃ y : SinceW B W, w'' = y.w :=
  h.mono fun _ w' ⟨he, hb⟩ => ⟨he, x, hb.symm⟩

/-- a block that is known whole -/
def Blk (w : World) (g : Nat) (t : TypeId) (cs : Array Value) : Prop := w.heap[g]? = some (.cells cs t (0, 0))
section
variable {w w' : World} {g : Nat} {t : TypeId} {cs : Array Value}
theorem Blk.lt (h : Blk w g t cs) : g < w.heap.size := by
  rcases Nat.lt_or_ge g w.heap.size with hlt | hge
  · exact hlt
  · unfold Blk at h; rw [Array.getElem?_eq_none hge] at h; cases h
theorem Blk.cell (h : Blk w g t cs) (i : Nat) : w.cell? ⟨g, i, none⟩ = cs[i]? := cell_of_row w g i cs t (0, 0) h
theorem Blk.frozen (h : Blk w g t cs) (i : Nat) : w.frozen? ⟨g, i, none⟩ = false := by
  unfold Blk at h
  simp [World.frozen?, h]
theorem Blk.new (w : World) (t : TypeId) (cs : Array Value) : Blk (w.alloc (.cells cs t)) w.heap.size t cs := heap_alloc_new w _
theorem Blk.drew (h : Blk w g t cs) : Blk w.drew g t cs := h
theorem Blk.drewN (h : Blk w g t cs) (n : Nat) : Blk (w.drewN n) g t cs := h
theorem Blk.alloc (h : Blk w g t cs) (o : Obj) : Blk (w.alloc o) g t cs := (Below.heap_alloc w o g h.lt).trans h
theorem Blk.set_ (h : Blk w g t cs) (i : Nat) (u : Value) : Blk (w.setCell ⟨g, i, none⟩ u) g t (cs.setIfInBounds i u) := by
  unfold Blk at h ⊢
  simp [World.setCell, Array.getElem?_modify, h]
theorem Blk.far (h : Blk w g t cs) {p : Addr} (hp : g ≠ p.block) (u : Value) : Blk (w.setCell p u) g t cs := (Below.heap_setCell w p u g hp).trans h
theorem Blk.below {B : Nat} (h : Blk w g t cs) (hb : Below B w w') (hg : g < B) : Blk w' g t cs := (hb.block g hg).trans h
theorem Blk.grown {row : Option Nat} (h : Blk w g t cs) (hb : w.grownBy w' row) (hg : some g ≠ row) : Blk w' g t cs := (hb.block g h.lt hg).trans h
theorem Blk.rdB {l : List UInt8} (h : Blk w g t (l.map Bv).toArray) : RdB w (g + 1) (some ⟨g, 0, none⟩) l := fun _ =>
  ⟨_, rfl, by simp, fun j b hj => by rw [add_zero_off, h.cell, List.getElem?_toArray, List.getElem?_map, hj]; rfl⟩
end

/-- An argument that is a slice of bytes, as the row opens it, read as bytes. -/
theorem bytes_of_ints {w : World} {x : Addr} {len cap : Nat} {zs : List Int} (hl : len ≤ cap) (hz : zs.length = cap)
    (hcell : ∀ i, i < zs.length → w.cell? (x.add i) = some (.int .u8 (zs.getD i 0))) (hwz : ∀ n ∈ zs, (Lit.int .u8 n).wf = true) (hb : x.block < w.heap.size) :
    ∃ l : List UInt8, l.length = len ∧ RdB w w.heap.size (some x) l := by
  refine ⟨(zs.take len).map fun n => UInt8.ofNat n.toNat, by simp; omega, fun _ => ⟨x, rfl, hb, fun j b hj => ?_⟩⟩
  rw [List.getElem?_map] at hj
  have hjl : j < len := by
    rcases Nat.lt_or_ge j len with h | h
    · exact h
    · rw [List.getElem?_eq_none (by simp; omega)] at hj; simp at hj
  rw [List.getElem?_take_of_lt hjl, List.getElem?_eq_getElem (by omega)] at hj
  simp at hj
  rw [hcell j (by omega)]
  have hm : zs[j]'(by omega) ∈ zs := List.getElem_mem _
  have hw := hwz _ hm
  simp [Lit.wf, IntKind.min, IntKind.max, IntKind.signed, IntKind.bits] at hw
  rw [List.getD_eq_getElem?_getD, List.getElem?_eq_getElem (by omega)]
  subst hj
  simp only [Bv, Option.getD_some, UInt8.toNat_ofNat']
  congr 2
  omega
end Go.Proofs.Ytbiinlkdgankkaa
