/- A map of integers to values, as a function: 'Kp'. No type in sight. -/
import Derived.Test.YtcljendidhfobaaOnly
import Derived.Maps.OwnIn
import Derived.Maps.OwnOps
import Derived.BigQuiet
namespace Go.Proofs.Ytcljendidhfobaa
set_option linter.unusedVariables false
open Go.RowKit
open Go.Maps (Keyed has IsMap has_put_same has_put_other has_del_same has_del_other atKey_put_same atKey_put_other atKey_del_same atKey_del_other atKey_of_not_has)

/-- an element reads as itself -/
def Rh (v : Value) : Option (DataW Value × List MemPlace) := some (.held v, [])
/-- Block m is a map of at most n entries, which at the whole number a holds what 'M a' says; z: the element's zero value. -/
def Kp (P : Program) (k : TypeId) (z : Value) (w : World) (m n : Nat) (M : Int → Option Value) : Prop :=
  ∃ D : DataW Value, w.ownsMap P k Rh m n D ∧ ∀ a : Int, (Lit.int .i64 a).wf = true → has D (.int .i64 a) = (M a).isSome ∧ D.atKey (.int .i64 a) (.held z) = .held ((M a).getD z)
def upd {α : Type} (M : Int → Option α) (a : Int) (x : Option α) : Int → Option α := fun b => if b = a then x else M b
theorem upd_same {α : Type} (M : Int → Option α) (a : Int) (x : Option α) : upd M a x a = x := if_pos rfl
theorem upd_other {α : Type} (M : Int → Option α) {a b : Int} (x : Option α) (h : b ≠ a) : upd M a x b = M b := if_neg h
section
variable {P : Program} {k e t : TypeId} {z : Value} {w w' : World} {m n : Nat} {M : Int → Option Value}
theorem Kp.made (w : World) : Kp P k z (w.alloc (.map #[] 0)) w.heap.size 0 (fun _ => none) :=
  ⟨_, World.ownsMap_made w P k Rh, fun a _ => ⟨rfl, rfl⟩⟩
theorem Kp.lt (h : Kp P k z w m n M) : m < w.heap.size := by obtain ⟨D, h, _⟩ := h; exact h.lt
theorem Kp.blk (h : Kp P k z w m n M) : ∃ es c, w.heap[m]? = some (.map es c) := by obtain ⟨D, ⟨es, c, h, _⟩, _⟩ := h; exact ⟨es, c, h⟩
theorem Kp.mono {n' : Nat} (h : Kp P k z w m n M) (hn : n ≤ n') : Kp P k z w m n' M := by obtain ⟨D, h, r⟩ := h; exact ⟨D, h.mono hn, r⟩
theorem Kp.only {S : Nat → Prop} (h : Kp P k z w m n M) (ho : Only S w w') (hs : ¬ S m) : Kp P k z w' m n M := by
  have hl := h.lt
  obtain ⟨D, ⟨es, c, hb, r⟩, r2⟩ := h
  exact ⟨D, ⟨es, c, (ho.block m hl hs).trans hb, r⟩, r2⟩
theorem Kp.drewN (h : Kp P k z w m n M) (j : Nat) : Kp P k z (w.drewN j) m n M := h
theorem Kp.look (h : Kp P k z w m n M) (hk : P.underlying k = some (.int .i64)) (ht : P.underlying t = some (.map k e)) (hz : ∀ w, (zeroValue e).run P w = .ok z w) {a : Int} (ha : (Lit.int .i64 a).wf = true) :
    (Instr.lookup t (.map (some m)) (.int .i64 a) true).run P w = .ok (.tuple #[(M a).getD z, .bool (M a).isSome]) w := by
  obtain ⟨D, h, r⟩ := h
  obtain ⟨v, ps, hrun, hv⟩ := h.look_ok (Maps.int_keyed hk) ht (hz w) (zd := .held z) (zp := []) rfl (Maps.keyOf_int_mk hk ha)
  obtain ⟨r1, r2⟩ := r a ha
  rw [r2] at hv
  simp only [Rh, Option.some.injEq, Prod.mk.injEq, DataW.held.injEq] at hv
  rw [hrun, r1, hv.1]
theorem Kp.store (h : Kp P k z w m n M) (hk : P.underlying k = some (.int .i64)) (ht : P.underlying t = some (.map k e)) (hn : n < maxLen) {a : Int} (ha : (Lit.int .i64 a).wf = true) (v : Value) :
    ∃ w', (Instr.mapUpdate t (.map (some m)) (.int .i64 a) v).run P w = .ok () w' ∧ Kp P k z w' m (n + 1) (upd M a (some v)) ∧ w.grownBy w' (some m) ∧ w'.heap.size = w.heap.size := by
  obtain ⟨D, h, r⟩ := h
  have hD := h.isMap
  obtain ⟨w', hrun, h1, h2⟩ := h.store (Maps.int_keyed hk) ht hn (Maps.keyOf_int_mk hk ha) (val := v) (d := .held v) (ps := []) rfl
  refine ⟨w', hrun, ⟨_, h1, fun b hb => ?_⟩, h2.grown, by obtain ⟨_, _, _, _, _, rfl⟩ := h2; simp [ChangeMaps.setBlock]⟩
  by_cases hba : b = a
  · subst hba
    rw [has_put_same hD (by trivial), atKey_put_same hD (by trivial), upd_same]
    exact ⟨rfl, rfl⟩
  · have hne : (Lit.int .i64 b) ≠ .int .i64 a := fun e => by injection e with _ e; exact hba e
    rw [has_put_other hne, atKey_put_other hne, upd_other M _ hba]
    exact r b hb
theorem Kp.drop (h : Kp P k z w m n M) (hk : P.underlying k = some (.int .i64)) (ht : P.underlying t = some (.map k e)) {a : Int} (ha : (Lit.int .i64 a).wf = true) (ty : TypeId) :
    ∃ w', (Builtin.delete_ #[t, k] ty #[.map (some m), .int .i64 a]).run P w = .ok (.tuple #[]) w' ∧ Kp P k z w' m n (upd M a none) ∧ w.grownBy w' (some m) ∧ w'.heap.size = w.heap.size := by
  obtain ⟨D, h, r⟩ := h
  obtain ⟨w', hrun, h1, h2⟩ := h.drop (Maps.int_keyed hk) ht (Maps.keyOf_int_mk hk ha) ty
  refine ⟨w', hrun, ⟨_, h1, fun b hb => ?_⟩, h2.grown, by obtain ⟨_, _, _, _, _, rfl⟩ := h2; simp [ChangeMaps.setBlock]⟩
  by_cases hba : b = a
  · subst hba
    rw [has_del_same, atKey_del_same, upd_same]
    exact ⟨rfl, rfl⟩
  · have hne : (Lit.int .i64 b) ≠ .int .i64 a := fun e => by injection e with _ e; exact hba e
    rw [has_del_other hne, atKey_del_other hne, upd_other M _ hba]
    exact r b hb
end
section
variable {P : Program} {k e t : TypeId} {z : Value} {w : World} {m n : Nat} {M : Int → Option Value} {ops : Array Oper} {o : Oper} {act : Act} {K : Act → World → Prop} {Q : Exit → Act → World → Prop} {E : Prop}
/-- 'm[a] = v' as a step of a region that draws its order -/
theorem step_store_kp (hgd : o.guard = none) (x y v : Operand) (hop : o.op = Op.mapUpdate t x y v) (hk : P.underlying k = some (.int .i64)) (ht : P.underlying t = some (.map k e))
    (h : Kp P k z w m n M) (hn : n < maxLen) (a : Int) (ha : (Lit.int .i64 a).wf = true) (u : Value) (hx : act.eval x = .map (some m)) (hy : act.eval y = .int .i64 a) (hv : act.eval v = u)
    (hK : ∀ w', Kp P k z w' m (n + 1) (upd M a (some u)) → w.grownBy w' (some m) → w'.heap.size = w.heap.size → K (act.put o.dst undef) w') : if Region.wanted o (yielded ops act.tmps) = true then Oper.wp P o act w K Q else E := by
  have hw : Region.wanted o (yielded ops act.tmps) = true := by simp [Region.wanted, hgd]
  rw [if_pos hw]
  obtain ⟨w', hrun, h1, h2, h3⟩ := h.store hk ht hn ha u
  unfold Oper.wp
  simp [execOp, hop, hx, hy, hv, hrun, Result.andThen]
  exact hK w' h1 h2 h3
/-- 'delete(m, a)' -/
theorem step_delete_kp (hgd : o.guard = none) (x y : Operand) (hop : o.op = Op.call { callee := Callee.builtin Builtin.delete, args := #[x, y], argTypes := #[t, k] }) (hk : P.underlying k = some (.int .i64)) (ht : P.underlying t = some (.map k e))
    (h : Kp P k z w m n M) (a : Int) (ha : (Lit.int .i64 a).wf = true) (hx : act.eval x = .map (some m)) (hy : act.eval y = .int .i64 a)
    (hK : ∀ w', Kp P k z w' m n (upd M a none) → w.grownBy w' (some m) → w'.heap.size = w.heap.size → K (act.put o.dst (.tuple #[])) w') : if Region.wanted o (yielded ops act.tmps) = true then Oper.wp P o act w K Q else E := by
  have hw : Region.wanted o (yielded ops act.tmps) = true := by simp [Region.wanted, hgd]
  rw [if_pos hw]
  obtain ⟨w', hrun, h1, h2, h3⟩ := h.drop hk ht ha o.type
  unfold Oper.wp
  simp [execOp, hop, resolve, invoke, builtin, hx, hy, hrun, Result.andThen]
  exact hK w' h1 h2 h3
end
/-- 'v, is := m[a]' in a region that draws its order and only reads -/
theorem quiet_lookup {P : Program} {t : TypeId} {o : Oper} {act : Act} {C : World → Prop} {K : Act → Prop} {x y : Operand} {A B v : Value} {f : Bool} (hop : o.op = Op.lookup t x y f) (hx : act.eval x = A) (hy : act.eval y = B)
    (hr : ∀ u, C u → (Instr.lookup t A B f).run P u = .ok v u) (hK : K (act.put o.dst v)) : o.quiet P act C K := by
  refine ⟨v, fun u hu => ?_, hK⟩
  unfold Oper.quietAt
  simp [execOp, hop, hx, hy, hr u hu, Result.andThen, Oper.quietUpon]
end Go.Proofs.Ytcljendidhfobaa
