/- A map of whole numbers (of any kind) to values, as a function, with how many it has: 'Kq'. No type in sight. -/
import Derived.Test.YtcljendidhfobaaMapI
import Derived.Maps.RangeWalk
namespace Go.Proofs.Ytcljendidhfobaa
set_option linter.unusedVariables false
open Go.RowKit
open Go.Maps (Keyed has IsMap Tidy size_put size_del has_put_same has_put_other has_del_same has_del_other atKey_put_same atKey_put_other atKey_del_same atKey_del_other atKey_of_not_has)

/-- Block m is a map of n entries, which at the whole number a holds what 'M a' says; z: the element's zero value. -/
def Kq (P : Program) (k : TypeId) (q : IntKind) (z : Value) (w : World) (m n : Nat) (M : Int → Option Value) : Prop :=
  ∃ D : DataW Value, w.ownsMap P k Rh m n D ∧ Maps.size D = n ∧ ∀ a : Int, (Lit.int q a).wf = true → has D (.int q a) = (M a).isSome ∧ D.atKey (.int q a) (.held z) = .held ((M a).getD z)
section
variable {P : Program} {k e t : TypeId} {q : IntKind} {z : Value} {w w' : World} {m n : Nat} {M : Int → Option Value}
theorem Kq.made (w : World) : Kq P k q z (w.alloc (.map #[] 0)) w.heap.size 0 (fun _ => none) :=
  ⟨_, World.ownsMap_made w P k Rh, rfl, fun a _ => ⟨rfl, rfl⟩⟩
theorem Kq.lt (h : Kq P k q z w m n M) : m < w.heap.size := by obtain ⟨D, h, _⟩ := h; exact h.lt
theorem Kq.blk (h : Kq P k q z w m n M) : ∃ es c, w.heap[m]? = some (.map es c) := by obtain ⟨D, ⟨es, c, h, _⟩, _⟩ := h; exact ⟨es, c, h⟩
theorem Kq.only {S : Nat → Prop} (h : Kq P k q z w m n M) (ho : Only S w w') (hs : ¬ S m) : Kq P k q z w' m n M := by
  have hl := h.lt
  obtain ⟨D, ⟨es, c, hb, r⟩, r2⟩ := h
  exact ⟨D, ⟨es, c, (ho.block m hl hs).trans hb, r⟩, r2⟩
theorem Kq.drewN (h : Kq P k q z w m n M) (j : Nat) : Kq P k q z (w.drewN j) m n M := h
theorem Kq.ext {M' : Int → Option Value} (h : Kq P k q z w m n M) (he : ∀ a, (Lit.int q a).wf = true → M a = M' a) : Kq P k q z w m n M' := by
  obtain ⟨D, h, hn, r⟩ := h
  exact ⟨D, h, hn, fun a ha => by rw [← he a ha]; exact r a ha⟩
theorem tight {D : DataW Value} (h : w.ownsMap P k Rh m n D) {j : Nat} (hj : Maps.size D = j) : w.ownsMap P k Rh m j D := by
  obtain ⟨es, c, hb, F, hs, rfl⟩ := h
  have e1 : Maps.size (DataW.map ((es.toList.map (WideElems.rg P k Rh)).foldr DataW.insert [])) = es.size := by simp [Maps.size, length_sorted]
  exact ⟨es, c, hb, F, by omega, rfl⟩
theorem Kq.look (h : Kq P k q z w m n M) (hk : P.underlying k = some (.int q)) (ht : P.underlying t = some (.map k e)) (hz : ∀ w, (zeroValue e).run P w = .ok z w) {a : Int} (ha : (Lit.int q a).wf = true) :
    (Instr.lookup t (.map (some m)) (.int q a) false).run P w = .ok ((M a).getD z) w := by
  obtain ⟨D, h, _, r⟩ := h
  obtain ⟨v, ps, hrun, hv⟩ := h.lookup (Maps.int_keyed hk) ht (hz w) (zd := .held z) (zp := []) rfl (Maps.keyOf_int_mk hk ha)
  obtain ⟨r1, r2⟩ := r a ha
  rw [r2] at hv
  simp only [Rh, Option.some.injEq, Prod.mk.injEq, DataW.held.injEq] at hv
  rw [hrun, hv.1]
theorem Kq.lookOk (h : Kq P k q z w m n M) (hk : P.underlying k = some (.int q)) (ht : P.underlying t = some (.map k e)) (hz : ∀ w, (zeroValue e).run P w = .ok z w) {a : Int} (ha : (Lit.int q a).wf = true) :
    (Instr.lookup t (.map (some m)) (.int q a) true).run P w = .ok (.tuple #[(M a).getD z, .bool (M a).isSome]) w := by
  obtain ⟨D, h, _, r⟩ := h
  obtain ⟨v, ps, hrun, hv⟩ := h.look_ok (Maps.int_keyed hk) ht (hz w) (zd := .held z) (zp := []) rfl (Maps.keyOf_int_mk hk ha)
  obtain ⟨r1, r2⟩ := r a ha
  rw [r2] at hv
  simp only [Rh, Option.some.injEq, Prod.mk.injEq, DataW.held.injEq] at hv
  rw [hrun, r1, hv.1]
theorem Kq.len (h : Kq P k q z w m n M) (ht : P.underlying t = some (.map k e)) (ty : TypeId) : (Builtin.len_ #[t] ty #[.map (some m)]).run P w = .ok (.int .i64 n) w := by
  obtain ⟨D, h, hn, _⟩ := h
  rw [h.len ht ty, hn]
/-- a key that was not there is laid in -/
theorem Kq.store (h : Kq P k q z w m n M) (hk : P.underlying k = some (.int q)) (ht : P.underlying t = some (.map k e)) (hn : n < maxLen) {a : Int} (ha : (Lit.int q a).wf = true) (h0 : M a = none) (v : Value) :
    ∃ w', (Instr.mapUpdate t (.map (some m)) (.int q a) v).run P w = .ok () w' ∧ Kq P k q z w' m (n + 1) (upd M a (some v)) ∧ Only (fun k => k = m) w w' ∧ w'.heap.size = w.heap.size := by
  obtain ⟨D, h, hs, r⟩ := h
  have hD := h.isMap
  have hT := h.tidy (Maps.int_keyed hk)
  obtain ⟨w', hrun, h1, h2⟩ := h.store (Maps.int_keyed hk) ht hn (Maps.keyOf_int_mk hk ha) (val := v) (d := .held v) (ps := []) rfl
  have hsz : Maps.size (D.put (.int q a) (.held v)) = n + 1 := by
    rw [size_put hT, (r a ha).1, h0, hs]
    rfl
  refine ⟨w', hrun, ⟨_, h1, hsz, fun b hb => ?_⟩, Only.of_grown h2.grown (fun k e => by injection e with e; exact e.symm), by obtain ⟨_, _, _, _, _, rfl⟩ := h2; simp [ChangeMaps.setBlock]⟩
  by_cases hba : b = a
  · subst hba
    rw [has_put_same hD (by trivial), atKey_put_same hD (by trivial), upd_same]
    exact ⟨rfl, rfl⟩
  · have hne : (Lit.int q b) ≠ .int q a := fun e => by injection e with _ e; exact hba e
    rw [has_put_other hne, atKey_put_other hne, upd_other M _ hba]
    exact r b hb
/-- a key that was there goes -/
theorem Kq.drop (h : Kq P k q z w m (n + 1) M) (hk : P.underlying k = some (.int q)) (ht : P.underlying t = some (.map k e)) {a : Int} (ha : (Lit.int q a).wf = true) (h1 : (M a).isSome = true) (ty : TypeId) :
    ∃ w', (Builtin.delete_ #[t, k] ty #[.map (some m), .int q a]).run P w = .ok (.tuple #[]) w' ∧ Kq P k q z w' m n (upd M a none) ∧ Only (fun k => k = m) w w' ∧ w'.heap.size = w.heap.size := by
  obtain ⟨D, h, hs, r⟩ := h
  have hT := h.tidy (Maps.int_keyed hk)
  obtain ⟨w', hrun, h2, h3⟩ := h.drop (Maps.int_keyed hk) ht (Maps.keyOf_int_mk hk ha) ty
  have hsz : Maps.size (D.del (.int q a)) = n := by
    have := size_del (k := .int q a) hT
    rw [(r a ha).1, h1, hs] at this
    simpa using this
  refine ⟨w', hrun, ⟨_, tight h2 hsz, hsz, fun b hb => ?_⟩, Only.of_grown h3.grown (fun k e => by injection e with e; exact e.symm), by obtain ⟨_, _, _, _, _, rfl⟩ := h3; simp [ChangeMaps.setBlock]⟩
  by_cases hba : b = a
  · subst hba
    rw [has_del_same, atKey_del_same, upd_same]
    exact ⟨rfl, rfl⟩
  · have hne : (Lit.int q b) ≠ .int q a := fun e => by injection e with _ e; exact hba e
    rw [has_del_other hne, atKey_del_other hne, upd_other M _ hba]
    exact r b hb
end
end Go.Proofs.Ytcljendidhfobaa
