/- A loop over an iterator that makes what it hands out: the body is told what holds of the element in the world in which it is handed over. -/
import Derived.Test.YtjlmcjegfbnhpaaBase
import Derived.RangeFuncNested
import Derived.RangeFuncBound
import Derived.RangeFuncCalls
import Derived.RangeFuncLeaves
namespace Go.Proofs.Ytjlmcjegfbnhpaa
set_option linter.unusedVariables false
open Go.RowKit
section
variable {P : Program} {F : Fence} {n : Nat}
/-- an iterator's contract: what is yielded is as 'Rel' says -/
def SeqRel {α : Type} (F : Fence) (n : Nat) (P : Program) (g : Nat) (lb : Array Value) (encs : α → Array Value) (Kp : World → World → Prop) (Rel : List α → α → World → Prop) (S Sp : List α → Prop) (N : Nat) (w : World) : Prop :=
  ∀ (l : Nat) (J Jx : List α → World → Prop) (W : World), Below w.heap.size w W → AbidesFrom W.heap.size J → AbidesFrom W.heap.size Jx →
    (∀ pre x W1, J pre W1 → Rel pre x W1 → pre.length < N → YieldAt F (n - 1) P l (encs x) W1 fun e W' =>
      (e = .returned (.bool true) ∧ J (pre ++ [x]) W' ∧ Kp W1 W') ∨ (e = .returned (.bool false) ∧ Jx (pre ++ [x]) W')) →
    J [] W →
    CallsIn F n P g (#[.func (.yield l) #[] #[]] ++ lb) W fun e W' => (∃ v, e = .returned v) ∧ ((∃ xs, S xs ∧ J xs W') ∨ (∃ pre, Sp pre ∧ Jx pre W'))
/-- the loop's record -/
abbrev recOf (fn : Nat) (tmps : Array Value) (ps : Array Tmp) (assign body : Code) (D : Nat) (st : LoopState) (pe : Option Code) : Loop := { state := st, pending := pe, fn, tmps, params := ps, assign, body, defers := D }
theorem rangeFunc_rel {α : Type} {g : Operand} {ps : Array Tmp} {assign body : Code} {Q : Exit → Act → World → Prop} {a : Act} {w : World}
    (hro : F.round = none) (h1 : 1 ≤ n) {gf : Nat} {lb : Array Value} (hg : a.eval g = .func (.func gf) #[] lb) (hFg : F.fn gf) (eg : ∀ args w, (callFunc gf args).run P w = .ok (.enter gf args) w)
    {encs : α → Array Value} {Kp : World → World → Prop} {Rel : List α → α → World → Prop} {S Sp : List α → Prop} {N : Nat} {w0 : World} (hseq : SeqRel F (n - 1) P gf lb encs Kp Rel S Sp N w0)
    (hKt : ∀ {A B C : World}, Kp A B → Kp B C → Kp A C) (hKb : ∀ (W : World) (l : Nat) (o o' : Obj), w.heap.size ≤ l → W.heap[l]? = some o → o.isCells = false → o.isWalk = false → Kp W (W.putObj l o')) (hb0 : Below w0.heap.size w0 w) (hps : ∀ x, (encs x).size = ps.size)
    (I : List α → World → Prop) (Ix : Code → List α → World → Prop) (hI : OwnFrom w.heap.size I) (hIx : ∀ c, OwnFrom w.heap.size (Ix c)) (h0 : I [] w) (Ax : List α → α → Act → World → Prop) (hAx : ∀ pre x a', OwnFrom w.heap.size (fun (_ : Unit) W => Ax pre x a' W))
    (hassign : ∀ (l : Nat) (pre : List α) (x : α) (W : World) (K : Act → World → Prop), w.heap.size ≤ W.heap.size → I pre W → Rel pre x W → (∀ a' W', KeepsFrom w.heap.size W W' → Kp W W' → I pre W' → Ax pre x a' W' → K a' W') →
      assign.wpIn (F.inRound l) (n - 1 - 1) P (Exit.then K (fun _ _ _ => False)) { tmps := (ps.zip (encs x)).foldl (fun t (p, v) => t.setIfInBounds p v) a.tmps, defers := [] } W)
    (hbody : ∀ (l : Nat) (pre : List α) (x : α) (a' : Act) (W : World), w.heap.size ≤ l → I pre W → Ax pre x a' W → pre.length < N → body.wpIn (F.inRound l) (n - 1 - 1) P (ownPostG w.heap.size Kp I Ix (pre ++ [x]) W) a' W)
    (hdone : ∀ (D : Nat) (xs : List α) (W : World), w.heap.size ≤ D → S xs → I xs W → W.heap[D]? = some (.deferred (some [])) → Q .normal { a with defers := { target := .collected D, args := #[] } :: a.defers } W)
    (hstop : ∀ (D : Nat) (c : Code) (pre : List α) (W : World), w.heap.size ≤ D → Sp pre → Ix c pre W → W.heap[D]? = some (.deferred (some [])) → c.wpIn F n P Q { a with defers := { target := .collected D, args := #[] } :: a.defers } W) :
    (Code.rangeFunc g ps assign body).wpIn F n P Q a w := by
  refine wpIn_rangeFunc fun fn hfn => ?_
  rw [hro]
  have hsz0 : (w.alloc (.deferred (some []))).heap.size = w.heap.size + 1 := World.size_alloc _ _
  obtain ⟨d, hd⟩ : ∃ d, w.heap.size = d := ⟨_, rfl⟩
  have hd1 : (w.alloc (.deferred (some []))).heap.size = d + 1 := by rw [hsz0, hd]
  obtain ⟨W1, hW1⟩ : ∃ W1, (w.alloc (.deferred (some []))).alloc (.loop (recOf fn a.tmps ps assign body d .ready none)) = W1 := ⟨_, rfl⟩
  have hsz : W1.heap.size = d + 2 := by rw [← hW1, World.size_alloc, hd1]
  have hL1 : W1.heap[d + 1]? = some (.loop (recOf fn a.tmps ps assign body d .ready none)) := by
    have h := World.alloc_heap_new (w.alloc (.deferred (some []))) (.loop (recOf fn a.tmps ps assign body d .ready none))
    rw [hd1, hW1] at h
    exact h
  have hK1 : W1.heap[d]? = some (.deferred (some [])) := by
    have h := World.alloc_heap_new w (.deferred (some []))
    rw [hd] at h
    rw [← hW1]
    exact (Below.heap_alloc _ _ _ (by rw [hd1]; omega)).trans h
  have hbase : w.heap.size ≤ d := Nat.le_of_eq hd
  have hI1 : I [] W1 := by rw [← hW1]; exact hI.alloc _ (hI.alloc _ h0)
  have hB1 : Below w0.heap.size w0 W1 := by
    rw [← hW1]
    exact hb0.trans (((Below.refl _ w).alloc hb0.size _).alloc (by rw [hd1]; have := hb0.size; omega) _)
  refine ⟨d + 1, [{ target := .collected d, args := #[] }], W1, { target := .fn (.func gf) lb, args := #[.func (.yield (d + 1)) #[] #[]] }, W1, gf, #[.func (.yield (d + 1)) #[] #[]] ++ lb, W1, ?enter, ?res, ?leads, ?inv, fun _ => h1, ?main⟩
  case enter =>
    rw [← hd, ← hW1, ← hd]
    exact run_enterLoop_outer _ _ _ _ _
  case res =>
    simp only [resolve, hg]
    simp [go_sem]
  case leads =>
    intro f' hf'
    simp [Target.leads] at hf'
    subst hf'
    exact hFg
  case inv => simp [invoke, go_sem, eg]
  case main =>
    have hwalk : ∀ {A : World} {row : Option Nat}, (∀ r, row = some r → W1.heap.size ≤ r ∧ ∃ o : Obj, A.heap[r]? = some o ∧ o.isWalk = true) → ∀ r, row = some r → w.heap.size ≤ r ∧ ∃ o : Obj, A.heap[r]? = some o ∧ o.isCells = false := fun h r e => by
      obtain ⟨h2, o, ho, hw⟩ := h r e
      exact ⟨by omega, o, ho, Obj.not_cells_of_walk hw⟩
    refine (hseq (d + 1) (fun pre W => I pre W ∧ W.heap[d + 1]? = some (.loop (recOf fn a.tmps ps assign body d .ready none)) ∧ W.heap[d]? = some (.deferred (some [])))
      (fun pre W => ∃ c, Ix c pre W ∧ W.heap[d + 1]? = some (.loop (recOf fn a.tmps ps assign body d .done (some c))) ∧ W.heap[d]? = some (.deferred (some []))) W1 hB1 ?aj ?ajx ?round ⟨hI1, hL1, hK1⟩).mono ?after
    case aj =>
      rintro pre A B row ⟨q1, q2, q3⟩ hgr hrow
      exact ⟨hI pre A B row q1 hgr (hwalk hrow), (grownBy_keeps hgr (fun r e => (hrow r e).2) q2 rfl).trans q2, (grownBy_keeps hgr (fun r e => (hrow r e).2) q3 rfl).trans q3⟩
    case ajx =>
      rintro pre A B row ⟨c, q1, q2, q3⟩ hgr hrow
      exact ⟨c, hIx c pre A B row q1 hgr (hwalk hrow), (grownBy_keeps hgr (fun r e => (hrow r e).2) q2 rfl).trans q2, (grownBy_keeps hgr (fun r e => (hrow r e).2) q3 rfl).trans q3⟩
    case after =>
      rintro e W2 ⟨⟨v, rfl⟩, hcase⟩
      rcases hcase with ⟨xs, hS, q1, q2, q3⟩ | ⟨pre, hS, c, q1, q2, q3⟩
      · exact ⟨none, _, run_endLoop (P := P) q2 (by simp), hdone d xs _ hbase hS (hI.putObj _ q1 (by omega) q2 rfl) ((World.putObj_heap_other (by omega)).trans q3)⟩
      · exact ⟨some c, _, run_endLoop (P := P) q2 (by simp), hstop d c pre _ hbase hS ((hIx c).putObj _ q1 (by omega) q2 rfl) ((World.putObj_heap_other (by omega)).trans q3)⟩
    case round =>
      rintro pre x W ⟨q1, q2, q3⟩ hrel hlen
      have hy := run_yield (P := P) (args := encs x) q2 (hps x)
      refine ⟨fn, _, assign, body, hy, roundIn_of_wpIn hfn (hassign _ pre x W _ (by have := (Array.getElem?_eq_some_iff.1 q2).1; omega) q1 hrel ?_)⟩
      clear hy
      intro a' Wa hkfa hkpa hia hax
      have q2a := hkfa.same _ _ (by omega) q2 rfl
      have q3a := hkfa.same _ _ (by omega) q3 rfl
      have hlt : d + 1 < Wa.heap.size := (Array.getElem?_eq_some_iff.1 q2a).1
      refine ⟨_, run_beginRound q2a rfl, ?_⟩
      obtain ⟨Wb, hWb⟩ : ∃ u, Wa.putObj (d + 1) (.loop (recOf fn a.tmps ps assign body d .busy none)) = u := ⟨_, rfl⟩
      have p2 : Wb.heap[d + 1]? = some (.loop (recOf fn a.tmps ps assign body d .busy none)) := by rw [← hWb]; exact World.putObj_heap_same hlt
      have p3 : Wb.heap[d]? = some (.deferred (some [])) := by rw [← hWb]; exact (World.putObj_heap_other (by omega)).trans q3a
      have p4 : Kp W Wb := hKt hkpa (by rw [← hWb]; exact hKb _ _ _ _ (by omega) q2a rfl rfl)
      have p1 : I pre Wb := by rw [← hWb]; exact hI.putObj _ hia (by omega) q2a rfl
      have p5 : Ax pre x a' Wb := by rw [← hWb]; exact (hAx pre x a').putObj (s := ()) _ hax (by omega) q2a rfl
      show body.wpIn _ _ P _ a' (Wa.putObj (d + 1) (.loop (recOf fn a.tmps ps assign body d .busy none)))
      rw [hWb]
      have fin : ∀ (jump : Option Code) (W3 : World), KeepsFrom w.heap.size Wb W3 →
          (Instr.endRound (d + 1) jump).run P W3 = .ok (.bool jump.isNone) (W3.putObj (d + 1) (.loop (recOf fn a.tmps ps assign body d (if jump.isNone then .ready else .done) jump))) ∧
          W3.heap[d + 1]? = some (.loop (recOf fn a.tmps ps assign body d .busy none)) ∧
          (W3.putObj (d + 1) (.loop (recOf fn a.tmps ps assign body d (if jump.isNone then .ready else .done) jump))).heap[d + 1]? = some (.loop (recOf fn a.tmps ps assign body d (if jump.isNone then .ready else .done) jump)) ∧
          (W3.putObj (d + 1) (.loop (recOf fn a.tmps ps assign body d (if jump.isNone then .ready else .done) jump))).heap[d]? = some (.deferred (some [])) := fun jump W3 hk => by
        have r2 := hk.same _ _ (by omega) p2 rfl
        exact ⟨run_endRound (P := P) jump r2, r2, World.putObj_heap_same (Array.getElem?_eq_some_iff.1 r2).1, (World.putObj_heap_other (by omega)).trans (hk.same _ _ (by omega) p3 rfl)⟩
      refine wpIn_mono (hbody _ pre x a' _ (by omega) p1 p5 hlen) ?_
      intro e a3 W3 hp
      match e, hp with
      | .normal, ⟨k1, k2, k3⟩ =>
        obtain ⟨e1, e2, e3, e4⟩ := fin none W3 k1
        exact ⟨_, _, e1, .inl ⟨rfl, ⟨hI.putObj _ k3 (by omega) e2 rfl, e3, e4⟩, hKt (hKt p4 k2) (hKb _ _ _ _ (by omega) e2 rfl rfl)⟩⟩
      | .ret, ⟨k1, k3⟩ =>
        obtain ⟨e1, e2, e3, e4⟩ := fin (some .ret) W3 k1
        exact ⟨_, _, e1, .inr ⟨rfl, .ret, (hIx _).putObj _ k3 (by omega) e2 rfl, e3, e4⟩⟩
      | .exit id, ⟨k1, k3⟩ =>
        obtain ⟨e1, e2, e3, e4⟩ := fin (some (.exit id)) W3 k1
        exact ⟨_, _, e1, .inr ⟨rfl, .exit id, (hIx _).putObj _ k3 (by omega) e2 rfl, e3, e4⟩⟩
      | .goto t, ⟨k1, k3⟩ =>
        obtain ⟨e1, e2, e3, e4⟩ := fin (some (.goto t)) W3 k1
        exact ⟨_, _, e1, .inr ⟨rfl, .goto t, (hIx _).putObj _ k3 (by omega) e2 rfl, e3, e4⟩⟩
      | .panic ch, hp => exact hp.elim
      | .outgrown, hp => exact hp.elim
theorem heap_kept {W W' : World} {row : Option Nat} {k : Nat} {o : Obj} (h : W.heap[k]? = some o) (hc : o.isCells = true) (hg : W.grownBy W' row) (hrow : ∀ r, row = some r → ∃ o : Obj, W.heap[r]? = some o ∧ o.isCells = false) : W'.heap[k]? = some o := by
  refine (hg.block k (Array.getElem?_eq_some_iff.1 h).1 (fun e => ?_)).trans h
  obtain ⟨o', h1, h2⟩ := hrow k e.symm
  rw [h] at h1
  cases h1
  rw [hc] at h2
  cases h2
/-- the same, where a round lays its element's second part into a block of its own -/
theorem rangeFunc_box {α : Type} {g : Operand} {ps : Array Tmp} {assign body : Code} {Q : Exit → Act → World → Prop} {a : Act} {w : World}
    (hro : F.round = none) (h1 : 1 ≤ n) {gf : Nat} {lb : Array Value} (hg : a.eval g = .func (.func gf) #[] lb) (hFg : F.fn gf) (eg : ∀ args w, (callFunc gf args).run P w = .ok (.enter gf args) w)
    {encs : α → Array Value} {Kp : World → World → Prop} {Rel : List α → α → World → Prop} {S Sp : List α → Prop} {N : Nat} {w0 : World} (hseq : SeqRel F (n - 1) P gf lb encs Kp Rel S Sp N w0)
    (hKt : ∀ {A B C : World}, Kp A B → Kp B C → Kp A C) (hKb : ∀ (W : World) (l : Nat) (o o' : Obj), w.heap.size ≤ l → W.heap[l]? = some o → o.isCells = false → o.isWalk = false → Kp W (W.putObj l o')) (hb0 : Below w0.heap.size w0 w) (hps : ∀ x, (encs x).size = ps.size)
    (hKa : ∀ (W : World) (o : Obj), w.heap.size ≤ W.heap.size → Kp W (W.alloc o)) (hR : ∀ pre x, OwnFrom w.heap.size (fun (_ : Unit) W => Rel pre x W))
    (I : List α → World → Prop) (Ix : Code → List α → World → Prop) (hI : OwnFrom w.heap.size I) (hIx : ∀ c, OwnFrom w.heap.size (Ix c)) (h0 : I [] w) (t : TypeId) (cs : α → Array Value) (a₁ : α → Nat → Act)
    (hassign : ∀ (l : Nat) (x : α) (W : World) (k : Nat) (K : Act → World → Prop), W.heap.size = k → K (a₁ x k) (W.alloc (.cells (cs x) t)) →
      assign.wpIn (F.inRound l) (n - 1 - 1) P (Exit.then K (fun _ _ _ => False)) { tmps := (ps.zip (encs x)).foldl (fun t (p, v) => t.setIfInBounds p v) a.tmps, defers := [] } W)
    (hbody : ∀ (l : Nat) (pre : List α) (x : α) (k : Nat) (W : World), w.heap.size ≤ l → w.heap.size ≤ k → I pre W → Rel pre x W → Blk W k t (cs x) → pre.length < N → body.wpIn (F.inRound l) (n - 1 - 1) P (ownPostG w.heap.size Kp I Ix (pre ++ [x]) W) (a₁ x k) W)
    (hdone : ∀ (D : Nat) (xs : List α) (W : World), w.heap.size ≤ D → S xs → I xs W → W.heap[D]? = some (.deferred (some [])) → Q .normal { a with defers := { target := .collected D, args := #[] } :: a.defers } W)
    (hstop : ∀ (D : Nat) (c : Code) (pre : List α) (W : World), w.heap.size ≤ D → Sp pre → Ix c pre W → W.heap[D]? = some (.deferred (some [])) → c.wpIn F n P Q { a with defers := { target := .collected D, args := #[] } :: a.defers } W) :
    (Code.rangeFunc g ps assign body).wpIn F n P Q a w := by
  refine rangeFunc_rel hro h1 hg hFg eg hseq hKt hKb hb0 hps I Ix hI hIx h0 (fun pre x a' W => Rel pre x W ∧ ∃ k, w.heap.size ≤ k ∧ Blk W k t (cs x) ∧ a' = a₁ x k) ?_ ?_ ?_ hdone hstop
  · rintro pre x a' s A B row ⟨q1, k, q2, q3, q4⟩ hgr hrow
    exact ⟨hR pre x () A B row q1 hgr hrow, k, q2, heap_kept q3 rfl hgr (fun r e => (hrow r e).2), q4⟩
  · intro l pre x W K hsz hi hrel hK
    exact hassign l x W _ K rfl (hK _ _ (KeepsFrom.of_grownBy (World.grownBy_alloc W _ none) (fun j e => by cases e)) (hKa _ _ hsz) (hI.alloc _ hi) ⟨(hR pre x).alloc (s := ()) _ hrel, W.heap.size, hsz, Blk.new _ _ _, rfl⟩)
  · rintro l pre x a' W hl hi ⟨hrel, k, hk, hb, rfl⟩ hlen
    exact hbody l pre x k W hl hk hi hrel hb hlen
end
end Go.Proofs.Ytjlmcjegfbnhpaa
