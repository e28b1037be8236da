/- 'range' over a map of whole numbers, under way: 'Rq'. No type in sight. -/
import Derived.Test.YtcljendidhfobaaMapN
import Derived.Maps.RangeWalk
namespace Go.Proofs.Ytcljendidhfobaa
set_option linter.unusedVariables false
open Go.RowKit
open Go.Maps (Keyed has atKey_of_not_has)

/-- Block m is a map (as Kq says), block r goes over it; 'left a': does a's entry still come; cnt: how many still come. -/
def Rq (P : Program) (k : TypeId) (q : IntKind) (z : Value) (w : World) (m r n : Nat) (M : Int → Option Value) (left : Int → Bool) (cnt : Nat) : Prop :=
  ∃ (D : DataW Value) (L : Lit → Bool), w.ranges P k Rh m r n D L cnt ∧ Maps.size D = n ∧ (∀ a : Int, (Lit.int q a).wf = true → has D (.int q a) = (M a).isSome ∧ D.atKey (.int q a) (.held z) = .held ((M a).getD z)) ∧ ∀ a : Int, (Lit.int q a).wf = true → L (.int q a) = left a
section
variable {P : Program} {k e t : TypeId} {q : IntKind} {z : Value} {w w' : World} {m r n cnt : Nat} {M : Int → Option Value} {left : Int → Bool}
theorem Rq.kq (h : Rq P k q z w m r n M left cnt) : Kq P k q z w m n M := by
  obtain ⟨D, L, h, hs, hr, _⟩ := h
  exact ⟨D, h.owns, hs, hr⟩
theorem Rq.left_eq (h : Rq P k q z w m r n M left cnt) : w.rangeLeft m r = cnt := by
  obtain ⟨D, L, h, _⟩ := h
  exact h.left_eq
theorem Rq.ne (h : Rq P k q z w m r n M left cnt) : r ≠ m := by
  obtain ⟨D, L, h, _⟩ := h
  exact h.ne
theorem Rq.lt (h : Rq P k q z w m r n M left cnt) : r < w.heap.size := by
  obtain ⟨D, L, h, _⟩ := h
  exact h.lt
theorem Rq.only {S : Nat → Prop} (h : Rq P k q z w m r n M left cnt) (ho : Only S w w') (h1 : ¬ S m) (h2 : ¬ S r) : Rq P k q z w' m r n M left cnt := by
  have hm := h.kq.lt
  have hr := h.lt
  obtain ⟨D, L, ⟨es, clock, since, seen, c0, hb, F, hs, hD, hb2, rest⟩, h3⟩ := h
  exact ⟨D, L, ⟨es, clock, since, seen, c0, (ho.block m hm h1).trans hb, F, hs, hD, (ho.block r hr h2).trans hb2, rest⟩, h3⟩
end
section
variable {P : Program} {k e t : TypeId} {q : IntKind} {z : Value} (w : World) {m r n cnt : Nat} {M : Int → Option Value} {left : Int → Bool} {ops : Array Oper} {rest : List Oper} {o : Oper} {a : Act} {Q : Exit → Act → World → Prop}
/-- 'range m' -/
theorem wpList_range_kq (hg : o.guard = none) (x : Operand) (hop : o.op = Op.range t x) (hk : P.underlying k = some (.int q)) (ht : P.underlying t = some (.map k e)) (hx : a.eval x = .map (some m)) (h : Kq P k q z w m n M)
    (hK : ∀ w', Rq P k q z w' m w.heap.size n M (fun b => (M b).isSome) n → w.grownBy w' none → w'.heap.size = w.heap.size + 1 → wpList P ops Q rest (a.put o.dst (.pointer (some ⟨w.heap.size, 0, none⟩))) w') :
    wpList P ops Q (o :: rest) a w := by
  obtain ⟨D, hown, hs, hr⟩ := h
  refine wpList_range_own w hg x t hop k e (Maps.int_keyed hk) ht Rh m n D hx hown fun w' h1 h2 h3 => hK w' ⟨D, _, ?_, hs, hr, fun b hb => (hr b hb).1⟩ h2 h3
  rw [hs] at h1
  exact h1
/-- the step -/
theorem wpList_next_kq (hg : o.guard = none) (it : Operand) (hop : o.op = Op.next it false) (hk : P.underlying k = some (.int q)) (hit : a.eval it = .pointer (some ⟨r, 0, none⟩)) (h : Rq P k q z w m r n M left cnt)
    (hDone : (∀ b : Int, (Lit.int q b).wf = true → left b = false) → wpList P ops Q rest (a.put o.dst (.tuple #[.bool false])) w)
    (hMore : ∀ (x : Int) (c : Value) (w' : World) (cnt' : Nat), (Lit.int q x).wf = true → left x = true → M x = some c → Rq P k q z w' m r n M (fun b => left b && !decide (b = x)) cnt' → cnt' < cnt →
      w.grownBy w' (some r) → w'.heap.size = w.heap.size → (Instr.entry (.pointer (some ⟨r, 0, none⟩))).run P w' = .ok (.tuple #[.int q x, c]) w' → wpList P ops Q rest (a.put o.dst (.tuple #[.bool true, .int q x, c])) w') :
    wpList P ops Q (o :: rest) a w := by
  obtain ⟨D, L, h, hs, hr, hL⟩ := h
  refine wpList_next_ranges w hg it hop k (Maps.int_keyed hk) Rh (Value.int q) id (fun key kl hkey => by obtain ⟨x, rfl, _⟩ := Maps.keyOf_int_inv hk hkey; exact ⟨x, rfl⟩) (fun v y _ => ⟨v, rfl⟩) m r n D L cnt hit h
    (fun _ hl => hDone fun b hb => by rw [← hL b hb]; exact hl _) (fun x c kl y w' cnt' hkey hlk hv hat hrg hlt hgr hsz hen => ?_)
  obtain ⟨x', ex, rfl, hwx⟩ := Maps.keyOf_int_inv hk hkey
  cases ex
  obtain ⟨h1, h2⟩ := hr x hwx
  have hc : y.1 = .held c := by
    simp only [Rh, id, Option.some.injEq] at hv
    rw [← hv]
  have hM : M x = some c := by
    cases hm : M x with
    | none =>
      rw [hm] at h1
      have e1 := hat (.held (.bool true))
      have e2 := hat (.held (.bool false))
      rw [atKey_of_not_has h1] at e1 e2
      rw [← e1] at e2
      injection e2 with e2
      cases e2
    | some v =>
      have e1 := hat (.held z)
      rw [h2, hm, hc] at e1
      injection e1 with e1
      simp at e1
      rw [e1]
  refine hMore x c w' cnt' hwx (by rw [← hL x hwx]; exact hlk) hM ⟨D, _, hrg, hs, hr, fun b hb => ?_⟩ hlt hgr hsz hen
  rw [hL b hb]
  simp [Lit.sameKey]
end
end Go.Proofs.Ytcljendidhfobaa
