/- The append of bytes onto a row of the call's own, as far as any two rows of a machine reach. No function in sight. -/
import Derived.Test.YtbiinlkdgankkaaMemIn
namespace Go.Proofs.Ytbiinlkdgankkaa
set_option linter.unusedVariables false
open Go.RowKit

theorem growBy_le (need : Nat) : ∀ (r c : Nat), c ≤ need + (need + 768) / 4 → Builtin.growBy need r c ≤ need + (need + 768) / 4
  | 0, c, h => by unfold Builtin.growBy; exact h
  | r + 1, c, h => by
    unfold Builtin.growBy
    split
    · exact h
    · exact growBy_le need r _ (by omega)
theorem nextcap_le {need old : Nat} (h : old < need) : Builtin.nextslicecap need old ≤ need + (need + 768) / 4 + 512 := by
  unfold Builtin.nextslicecap
  split
  · omega
  · split
    · omega
    · have := growBy_le need 4 old (by omega)
      omega
theorem run_append_big {P : Program} (w : World) (base : Nat) (t ty e : TypeId) (i : TypeInfo) (z : Value) (ht : P.underlying t = some (.slice e)) (hi : P.info? e = some i) (hz : i.zero = some z)
    (hsize : i.size = 1) (hby : i.bytes = 1) (hzs : z.cells.size = 1) (v : Value) (n : Nat) (xs : List Value) (hown : w.ownsRow base e 1 v n xs)
    (B : Nat) (A : Option Addr) (m c : Nat) (news : List Value) (hr : RdV w B A news) (hl : news.length = m) (h1 : ∀ u ∈ news, u.oneCell' = true) (hbig : n + m ≤ 200000000000000) (hbase : base ≤ w.heap.size) :
    ∃ v' w', (Builtin.append_ #[t, t] ty #[v, .slice A m c]).run P w = .ok v' w' ∧ w'.ownsRow base e 1 v' (n + m) (xs ++ news) ∧ w.grownBy w' v.ownBlock ∧
      (v'.ownBlock = v.ownBlock ∨ v'.ownBlock = some w.heap.size) := by
  have h63 : n + m ≤ maxLen := by simp only [maxLen]; omega
  by_cases hs : n + m ≤ 140737488355328
  · exact run_append_any w base t ty e i z 1 1 ht hi hz hsize hby hzs (by omega) v n xs hown B A m c news hr (by omega) h1 h63 (by omega) hbase
  rcases A with _ | ad
  · have hm : m = 0 := by
      rcases Nat.eq_zero_or_pos m with h0 | h0
      · exact h0
      · obtain ⟨ad, h, _⟩ := hr (by omega)
        cases h
    subst hm
    obtain rfl : news = [] := List.eq_nil_of_length_eq_zero hl
    exact ⟨v, w, run_append_of_nil w base t ty e i 1 ht hi v n xs hown c, by simpa using hown, World.grownBy.refl w _, .inl rfl⟩
  · have hcells : ∀ j u, news[j]? = some u → w.cell? (ad.add j) = some u := by
      intro j u hu
      obtain ⟨ad', h, _, hc⟩ := hr (by have := (List.getElem?_eq_some_iff.1 hu).1; omega)
      injection h with h
      subst h
      exact hc j u hu
    have hxl := own_len hown
    have hlen : (xs ++ news).length = n + m := by rw [List.length_append, hxl, hl]
    have fresh : ∀ (old : Nat), (w.drew.alloc (.cells (xs.toArray ++ news.toArray ++ Builtin.zeroCells z.cells (grownCap w (n + m) old e - (n + m))) e)).ownsRow base e 1
          (.slice (some ⟨w.heap.size, 0, none⟩) (n + m) (grownCap w (n + m) old e)) (n + m) (xs ++ news) ∧
        w.grownBy (w.drew.alloc (.cells (xs.toArray ++ news.toArray ++ Builtin.zeroCells z.cells (grownCap w (n + m) old e - (n + m))) e)) v.ownBlock := fun old => by
      have hge := grownCap_ge w (n + m) old e
      refine ⟨⟨by omega, .inr ⟨w.heap.size, _, _, rfl, hbase, heap_alloc_new w.drew _, hge, grownCap_le_maxLen w (n + m) old e h63, ?_, ?_⟩⟩, rfl, rfl, rfl, by simp, fun k hk _ => World.grownBy_alloc w.drew _ none |>.block k hk (by simp)⟩
      · simp only [Array.size_append, List.size_toArray, size_zeroCells, hzs]
        omega
      · have e2 : (n + m) * 1 = (xs ++ news).length := by omega
        simp only [Array.toList_append]
        rw [e2]
        exact List.take_left
    rcases hown.2 with ⟨rfl, rfl⟩ | ⟨g, cap, cur, rfl, hbg, hg, hnc, hcm, hcs, htake⟩
    · obtain rfl : xs = [] := List.eq_nil_of_length_eq_zero hxl
      have hrun := run_append_nil (P := P) w t ty e i z ht hi hz ad m c news (by rw [hsize]; omega) hcells (by omega) (by omega) (by rw [hby]; omega)
      have hgr := fresh 0
      simp only [Nat.zero_add, List.nil_append, Array.empty_append] at hgr ⊢
      exact ⟨_, _, hrun, hgr.1, hgr.2, .inr rfl⟩
    · by_cases hroom : n + m ≤ cap
      · have hrun := run_append_room (P := P) w t ty e i ht hi g n cap cur hg ad m c news (by rw [hsize]; omega) hcells h1 hroom (by rw [hsize]; omega)
        refine ⟨_, _, hrun, ⟨by omega, .inr ⟨g, cap, _, rfl, hbg, setRow_heap w g cur _ e _ hg, hroom, hcm, ?_, ?_⟩⟩, ⟨rfl, rfl, rfl, by simp, fun k _ hk => setRow_other w g k _ (fun e => hk (by simp [Value.ownBlock, e]))⟩, .inl rfl⟩
        · simp only [List.size_toArray, List.length_append, List.length_take, List.length_drop, Array.length_toList, hsize]
          omega
        · have e2 : (n + m) * 1 = (xs ++ news).length := by omega
          have e3 : cur.toList.take (n * i.size) = xs := by rw [hsize]; exact htake
          rw [e3, e2]
          exact List.take_left
      · have holds : ∀ j u, xs[j]? = some u → w.cell? ((⟨g, 0, none⟩ : Addr).add j) = some u := hown.cells (g := g) rfl
        have hrun := run_append_grow (P := P) w t ty e i z ht hi hz ⟨g, 0, none⟩ n cap xs (by rw [hsize]; omega) holds ad m c news (by rw [hsize]; omega) hcells (by omega) (by omega) (by
          have := nextcap_le (need := n + m) (old := cap) (by omega)
          rw [hby]
          omega)
        have hgr := fresh cap
        exact ⟨_, _, hrun, hgr.1, hgr.2, .inr rfl⟩
theorem wpListIn_append_big {F : Fence} {fuel : Nat} {P : Program} (w : World) {ops : Array Oper} {rest : List Oper} {o : Oper} {a : Act} {Q : Exit → Act → World → Prop} (hgd : o.guard = none) (s x : Operand) (t : TypeId)
    (ho : o.op = .call { callee := .builtin .append, args := #[s, x], argTypes := #[t, t] })
    (base : Nat) (e : TypeId) (i : TypeInfo) (z : Value) (ht : P.underlying t = some (.slice e)) (hi : P.info? e = some i) (hz : i.zero = some z)
    (hsize : i.size = 1) (hby : i.bytes = 1) (hzs : z.cells.size = 1)
    (v : Value) (n : Nat) (xs : List Value) (hs : a.eval s = v) (hown : w.ownsRow base e 1 v n xs)
    (B : Nat) (A : Option Addr) (m c : Nat) (news : List Value) (hx : a.eval x = .slice A m c) (hr : RdV w B A news) (hl : news.length = m) (h1 : ∀ u ∈ news, u.oneCell' = true)
    (hbig : n + m ≤ 200000000000000) (hbase : base ≤ w.heap.size)
    (h : ∀ A' c' w', w'.ownsRow base e 1 (.slice A' (n + m) c') (n + m) (xs ++ news) → w.grownBy w' v.ownBlock → ((Value.slice A' (n + m) c').ownBlock = v.ownBlock ∨ (Value.slice A' (n + m) c').ownBlock = some w.heap.size) →
      Below base w w' → n + m ≤ c' → wpListIn F fuel P ops Q rest (a.put o.dst (.slice A' (n + m) c')) w') : wpListIn F fuel P ops Q (o :: rest) a w := by
  refine wpListIn_plain hgd fun K hK' => ?_
  obtain ⟨v', w', hrun, h2, h3, h4⟩ := run_append_big (P := P) w base t o.type e i z ht hi hz hsize hby hzs v n xs hown B A m c news hr hl h1 hbig hbase
  obtain ⟨A', c', rfl, hc, _⟩ := own_form h2
  unfold Oper.wpIn
  refine ⟨?_, ?_⟩
  · simp [Oper.about, ho, resolve, Target.leads, Sem.run_pure]
  · rw [Oper.semAt_plain F _ _ (by rw [ho]; intro c hc'; cases hc')]
    simp [execOp, ho, resolve, invoke, builtin, hs, hx, hrun, Result.andThen]
    exact hK' _ _ (h A' c' w' h2 h3 h4 ((Below.refl _ _).grown h3 hbase fun k hk => (hown.lt k hk).1) hc)
end Go.Proofs.Ytbiinlkdgankkaa
