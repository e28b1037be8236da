/- What a call may write: 'Only S'; a slice in the midst of a block that is appended to: 'Qu'. No type in sight. -/
import Derived.Test.YtkgacehnpdijaaaAppendStep
namespace Go.Proofs.Ytkgacehnpdijaaa
set_option linter.unusedVariables false
open Go.RowKit

/-- All old blocks but those of S stand. -/
structure Only (S : Nat → Prop) (w w' : World) : Prop where
  os : w'.os = w.os
  tape : w'.tape = w.tape
  output : w'.output = w.output
  size : w.heap.size ≤ w'.heap.size
  block : ∀ k, k < w.heap.size → ¬ S k → w'.heap[k]? = w.heap[k]?
section
variable {S T : Nat → Prop} {w w' w'' : World}
theorem Only.refl (S : Nat → Prop) (w : World) : Only S w w := ⟨rfl, rfl, rfl, Nat.le_refl _, fun _ _ _ => rfl⟩
theorem Only.trans (h : Only S w w') (k : Only S w' w'') : Only S w w'' :=
  ⟨k.os.trans h.os, k.tape.trans h.tape, k.output.trans h.output, Nat.le_trans h.size k.size, fun i hi hs => (k.block i (Nat.lt_of_lt_of_le hi h.size) hs).trans (h.block i hi hs)⟩
theorem Only.trans' (h : Only S w w') (k : Only T w' w'') (ht : ∀ i, T i → S i ∨ w.heap.size ≤ i) : Only S w w'' :=
  ⟨k.os.trans h.os, k.tape.trans h.tape, k.output.trans h.output, Nat.le_trans h.size k.size, fun i hi hs => (k.block i (Nat.lt_of_lt_of_le hi h.size) (fun hk => by
    rcases ht i hk with h1 | h1
    · exact hs h1
    · omega)).trans (h.block i hi hs)⟩
theorem Only.mono (h : Only S w w') (hs : ∀ k, k < w.heap.size → S k → T k) : Only T w w' :=
  ⟨h.os, h.tape, h.output, h.size, fun i hi ht => h.block i hi fun hk => ht (hs i hi hk)⟩
theorem Only.of_below {B : Nat} (h : Below B w w') (hs : ∀ k, B ≤ k → k < w.heap.size → S k) : Only S w w' :=
  ⟨h.os, h.tape, h.output, h.size, fun i hi ht => h.block i (by
    rcases Nat.lt_or_ge i B with h1 | h1
    · exact h1
    · exact absurd (hs i h1 hi) ht)⟩
theorem Only.of_new (h : Below w.heap.size w w') : Only S w w' := Only.of_below h fun k h1 h2 => absurd h2 (Nat.not_lt.2 h1)
theorem Only.of_grown {row : Option Nat} (h : w.grownBy w' row) (hs : ∀ k, row = some k → S k) : Only S w w' :=
  ⟨h.os, h.tape, h.output, h.size, fun i hi ht => h.block i hi fun e => ht (hs i e.symm)⟩
theorem Only.below {B : Nat} (h : Only S w w') (hB : B ≤ w.heap.size) (hs : ∀ k, S k → B ≤ k) : Below B w w' :=
  ⟨h.os, h.tape, h.output, h.size, fun k hk => h.block k (Nat.lt_of_lt_of_le hk hB) fun e => absurd (hs k e) (Nat.not_le.2 hk)⟩
theorem Only.alloc (h : Only S w w') (o : Obj) : Only S w (w'.alloc o) := h.trans (Only.of_new ((Below.refl _ _).alloc (Nat.le_refl _) o))
theorem Only.drew (h : Only S w w') : Only S w w'.drew := ⟨h.os, h.tape, h.output, h.size, h.block⟩
theorem Only.drewN (h : Only S w w') (n : Nat) : Only S w (w'.drewN n) := ⟨h.os, h.tape, h.output, h.size, h.block⟩
theorem Only.setCell (h : Only S w w') {p : Addr} (hp : S p.block) (u : Value) : Only S w (w'.setCell p u) :=
  h.trans ⟨rfl, rfl, rfl, by simp [World.setCell], fun k hk hs => Below.heap_setCell _ _ _ _ (fun e => hs (e ▸ hp))⟩
theorem Only.cell (h : Only S w w') {a : Addr} (hl : a.block < w.heap.size) (hs : ¬ S a.block) : w'.cell? a = w.cell? a := World.cell?_of_block (h.block _ hl hs)
theorem Blk.only {g : Nat} {t : TypeId} {cs : Array Value} (hb : Blk w g t cs) (h : Only S w w') (hs : ¬ S g) : Blk w' g t cs := (h.block g hb.lt hs).trans hb
theorem own_only {base : Nat} {e : TypeId} {size : Nat} {v : Value} {n : Nat} {xs : List Value} (ho : w.ownsRow base e size v n xs) (h : Only S w w') (hs : ∀ k, v.ownBlock = some k → ¬ S k) : w'.ownsRow base e size v n xs := by
  refine ⟨ho.1, ?_⟩
  rcases ho.2 with hn | ⟨g, cap, cur, rfl, hb, hg, r⟩
  · exact .inl hn
  · exact .inr ⟨g, cap, cur, rfl, hb, (h.block g (Array.getElem?_eq_some_iff.1 hg).1 (hs g rfl)).trans hg, r⟩
end

/-- A slice of n one-cell elements that lies somewhere in a block of the like. -/
def Qu (w : World) (e : TypeId) (v : Value) (n : Nat) (xs : List Value) : Prop :=
  xs.length = n ∧ ((v = .slice none 0 0 ∧ n = 0) ∨
    ∃ g off cap cur, v = .slice (some ⟨g, off, none⟩) n cap ∧ w.heap[g]? = some (.cells cur e (0, 0)) ∧ n ≤ cap ∧ cap ≤ maxLen ∧ off + cap ≤ cur.size ∧ (cur.toList.drop off).take n = xs)
section
variable {w w' : World} {e : TypeId} {v : Value} {n : Nat} {xs : List Value}
theorem Qu.nil (w : World) (e : TypeId) : Qu w e (.slice none 0 0) 0 [] := ⟨rfl, .inl ⟨rfl, rfl⟩⟩
theorem Qu.len (h : Qu w e v n xs) : xs.length = n := h.1
theorem Qu.of_own {base : Nat} (h : w.ownsRow base e 1 v n xs) : Qu w e v n xs := by
  refine ⟨by simpa using h.1, ?_⟩
  rcases h.2 with hn | ⟨g, cap, cur, rfl, _, hg, h1, h2, h3, h4⟩
  · exact .inl hn
  · exact .inr ⟨g, 0, cap, cur, rfl, hg, h1, h2, by omega, by simpa using h4⟩
theorem Qu.lt (h : Qu w e v n xs) : ∀ k, v.ownBlock = some k → k < w.heap.size := by
  intro k hk
  rcases h.2 with ⟨rfl, _⟩ | ⟨g, off, cap, cur, rfl, hg, _⟩
  · simp [Value.ownBlock] at hk
  · simp [Value.ownBlock] at hk
    subst hk
    exact (Array.getElem?_eq_some_iff.1 hg).1
theorem Qu.blk (h : Qu w e v n xs) : ∀ k, v.ownBlock = some k → ∃ cur, Blk w k e cur := by
  intro k hk
  rcases h.2 with ⟨rfl, _⟩ | ⟨g, off, cap, cur, rfl, hg, _⟩
  · simp [Value.ownBlock] at hk
  · simp [Value.ownBlock] at hk
    subst hk
    exact ⟨cur, hg⟩
theorem Qu.only {S : Nat → Prop} (h : Qu w e v n xs) (ho : Only S w w') (hs : ∀ k, v.ownBlock = some k → ¬ S k) : Qu w' e v n xs := by
  refine ⟨h.1, ?_⟩
  rcases h.2 with hn | ⟨g, off, cap, cur, rfl, hg, r⟩
  · exact .inl hn
  · exact .inr ⟨g, off, cap, cur, rfl, (ho.block g (Array.getElem?_eq_some_iff.1 hg).1 (hs g rfl)).trans hg, r⟩
theorem Qu.form (h : Qu w e v n xs) : ∃ A c, v = .slice A n c ∧ n ≤ c ∧ c ≤ maxLen := by
  rcases h.2 with ⟨rfl, rfl⟩ | ⟨g, off, cap, cur, rfl, _, h1, h2, _⟩
  · exact ⟨none, 0, rfl, by omega, by simp⟩
  · exact ⟨_, cap, rfl, h1, h2⟩
theorem Qu.rd {A : Option Addr} {c : Nat} (h : Qu w e (.slice A n c) n xs) : RdV w w.heap.size A xs := fun hp => by
  rcases h.2 with ⟨_, rfl⟩ | ⟨g, off, cap, cur, e0, hg, h1, h2, h3, h4⟩
  · have := h.1; omega
  · injection e0 with e0 _ _
    subst e0
    refine ⟨_, rfl, (Array.getElem?_eq_some_iff.1 hg).1, fun j u hj => ?_⟩
    rw [Addr.add_lit, cell_of_row w g (off + j) cur e (0, 0) hg]
    rw [← h4, List.getElem?_take] at hj
    split at hj
    · rw [List.getElem?_drop] at hj
      simpa using hj
    · cases hj
/-- b[d:] -/
theorem Qu.cut {g off cap : Nat} (h : Qu w e (.slice (some ⟨g, off, none⟩) n cap) n xs) {d : Nat} (hd : d ≤ n) (hc : d < cap) : Qu w e (.slice (some ⟨g, off + d, none⟩) (n - d) (cap - d)) (n - d) (xs.drop d) := by
  have hl := h.1
  rcases h.2 with ⟨e0, _⟩ | ⟨g', off', cap', cur, e0, hg, h1, h2, h3, h4⟩
  · cases e0
  · injection e0 with e0 _ e2
    injection e0 with e0
    injection e0 with e0 e1
    subst e0 e1 e2
    refine ⟨by simp [hl], .inr ⟨g, off + d, cap - d, cur, rfl, hg, by omega, by omega, by omega, ?_⟩⟩
    rw [← h4, ← List.drop_drop, List.drop_take]
theorem Qu.cutAll {g off cap : Nat} (h : Qu w e (.slice (some ⟨g, off, none⟩) n cap) n xs) : Qu w e (.slice (some ⟨g, off, none⟩) 0 0) 0 [] := by
  rcases h.2 with ⟨e0, _⟩ | ⟨g', off', cap', cur, e0, hg, h1, h2, h3, h4⟩
  · cases e0
  · injection e0 with e0 _ e2
    injection e0 with e0
    injection e0 with e0 e1
    subst e0 e1 e2
    exact ⟨rfl, .inr ⟨g, off, 0, cur, rfl, hg, by omega, by omega, by omega, by simp⟩⟩
end

theorem drop_take_mid {α : Type} (l : List α) (off n : Nat) (u : α) (h : off + n ≤ l.length) :
    ((l.take (off + n) ++ [u] ++ l.drop (off + n + 1)).drop off).take (n + 1) = (l.drop off).take n ++ [u] := by
  rw [List.append_assoc, List.drop_append_of_le_length (by rw [List.length_take]; omega), List.drop_take, Nat.add_sub_cancel_left]
  have hl : ((l.drop off).take n).length = n := by rw [List.length_take, List.length_drop]; omega
  rw [← List.append_assoc, List.take_append_of_le_length (by rw [List.length_append, hl]; simp), List.take_of_length_le (by rw [List.length_append, hl]; simp)]
section
variable {P : Program} (w : World)
/-- one element more behind it -/
theorem run_append_qu (t ty e : TypeId) (i : TypeInfo) (z : Value) (bytes : Nat) (ht : P.underlying t = some (.slice e)) (hi : P.info? e = some i) (hz : i.zero = some z)
    (hsize : i.size = 1) (hby : i.bytes = bytes) (hzs : z.cells.size = 1) (v : Value) (n : Nat) (xs : List Value) (hq : Qu w e v n xs)
    (B : Nat) (A : Option Addr) (c : Nat) (u : Value) (hr : RdV w B A [u]) (h1 : u.oneCell' = true)
    (h63 : n + 1 ≤ maxLen) (hbytes : (n + 1) * bytes ≤ 140737488355328) :
    ∃ v' w', (Builtin.append_ #[t, t] ty #[v, .slice A 1 c]).run P w = .ok v' w' ∧ Qu w' e v' (n + 1) (xs ++ [u]) ∧ w.grownBy w' v.ownBlock ∧ (v'.ownBlock = v.ownBlock ∨ ∀ k, v'.ownBlock = some k → w.heap.size ≤ k) := by
  obtain ⟨ad, rfl, _, hnews⟩ := hr (by simp)
  have hol := hq.1
  have hqr := hq
  rcases hq.2 with ⟨rfl, rfl⟩ | ⟨g, off, cap, cur, rfl, hg, hnc, hcm, hcs, htk⟩
  · obtain rfl : xs = [] := List.eq_nil_of_length_eq_zero hol
    obtain ⟨v', w', hrun, h2, h3, _, h5⟩ := run_append_own_at (P := P) w 0 t ty e i z 1 bytes ht hi hz hsize hby hzs (by omega) (.slice none 0 0) 0 [] (World.ownsRow_nil w 0 e 1) ad 1 c [u] rfl hnews (by simpa using h1) h63 hbytes (Nat.zero_le _)
    exact ⟨v', w', hrun, Qu.of_own h2, h3, h5.imp id fun h k hk => by rw [h] at hk; injection hk with hk; omega⟩
  · by_cases hroom : n + 1 ≤ cap
    · have hf := run_firstCells_some (P := P) w i.size 1 ad 1 c [u] (by rw [hsize]; rfl) hnews
      rw [hsize] at hf
      have hst := run_storeCells_at P g (off + n) e [u] 0 cur w hg (by simp; omega) (by simpa using h1)
      simp only [Nat.add_zero] at hst
      refine ⟨_, _, ?_, ⟨by simp [hol], .inr ⟨g, off, cap, (cur.toList.take (off + n) ++ [u] ++ cur.toList.drop (off + n + 1)).toArray, rfl, setRow_heap w g cur _ e _ hg, hroom, hcm, ?_, ?_⟩⟩, grownBy_setRow w g _, .inl rfl⟩
      · simp [Builtin.append_, run_underlying ht, sizeOf, typeInfo, hi, Builtin.lenOf, hroom, hf, Addr.add_lit, hst, hsize]
      · simp
        omega
      · rw [List.toList_toArray, drop_take_mid _ _ _ _ (by simp; omega), htk]
    · obtain ⟨v', w', hrun, r1, r2⟩ := run_append_arg_grows (P := P) w t ty e i z 1 bytes ht hi hz hsize hby hzs (by omega) ⟨g, off, none⟩ n cap xs (by simpa using hol) (fun j x hj => (by
        obtain ⟨a, e0, _, hc⟩ := hqr.rd (by have := (List.getElem?_eq_some_iff.1 hj).1; omega)
        injection e0 with e0
        subst e0
        exact hc j x hj)) ad 1 c [u] rfl hnews (by omega) h63 hbytes
      exact ⟨v', w', hrun, Qu.of_own r1, ⟨r2.os, r2.tape, r2.output, r2.size, fun k hk _ => r2.block k hk (by simp)⟩, .inr fun k hk => (r1.lt k hk).1⟩
/-- .. as a step of a region that draws its order -/
theorem step_append_qu {ops : Array Oper} {o : Oper} {a : Act} {K : Act → World → Prop} {Q : Exit → Act → World → Prop} {E : Prop} (hgd : o.guard = none) (s x : Operand) (t : TypeId)
    (ho : o.op = .call { callee := .builtin .append, args := #[s, x], argTypes := #[t, t] })
    (e : TypeId) (i : TypeInfo) (z : Value) (bytes : Nat) (ht : P.underlying t = some (.slice e)) (hi : P.info? e = some i) (hz : i.zero = some z)
    (hsize : i.size = 1) (hby : i.bytes = bytes) (hzs : z.cells.size = 1) (v : Value) (n : Nat) (xs : List Value) (hs : a.eval s = v) (hq : Qu w e v n xs)
    (B : Nat) (A : Option Addr) (c : Nat) (u : Value) (hx : a.eval x = .slice A 1 c) (hr : RdV w B A [u]) (h1 : u.oneCell' = true)
    (h63 : n + 1 ≤ maxLen) (hbytes : (n + 1) * bytes ≤ 140737488355328)
    (h : ∀ A' c' w', Qu w' e (.slice A' (n + 1) c') (n + 1) (xs ++ [u]) → w.grownBy w' v.ownBlock → ((Value.slice A' (n + 1) c').ownBlock = v.ownBlock ∨ ∀ k, (Value.slice A' (n + 1) c').ownBlock = some k → w.heap.size ≤ k) →
      K (a.put o.dst (.slice A' (n + 1) c')) w') : if Region.wanted o (yielded ops a.tmps) = true then Oper.wp P o a w K Q else E := by
  have hw : Region.wanted o (yielded ops a.tmps) = true := by simp [Region.wanted, hgd]
  rw [if_pos hw]
  obtain ⟨v', w', hrun, h2, h3, h4⟩ := run_append_qu (P := P) w t o.type e i z bytes ht hi hz hsize hby hzs v n xs hq B A c u hr h1 h63 hbytes
  obtain ⟨A', c', rfl, hc, _⟩ := h2.form
  unfold Oper.wp execOp
  simp only [ho, resolve, invoke, builtin, Sem.run_bind, Sem.run_pure, Result.andThen_ok, List.map_toArray, List.map_cons, List.map_nil, hs, hx, hrun]
  exact h A' c' w' h2 h3 h4
end
end Go.Proofs.Ytkgacehnpdijaaa
