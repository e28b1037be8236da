/- Writes, Nodes; SameVers of like lists. -/
import Derived.Test.YtcljendidhfobaaCoStart
import Derived.Test.YtcljendidhfobaaEqual
namespace Go.Proofs.Ytcljendidhfobaa
set_option linter.unusedVariables false
open Go.RowKit

/-- a version's six cells from q on -/
def VerAt (w : World) (q : Addr) (v : Vr) : Prop :=
  w.cell? q = some (.string v.key) ∧ w.cell? ⟨q.block, q.off + 1, none⟩ = some (.string v.val) ∧ w.cell? ⟨q.block, q.off + 2, none⟩ = some (.bool v.gone) ∧ w.cell? ⟨q.block, q.off + 3, none⟩ = some (.int .u64 v.ts) ∧ w.cell? ⟨q.block, q.off + 4, none⟩ = some (.int .i64 v.dc) ∧ w.cell? ⟨q.block, q.off + 5, none⟩ = some (.int .i64 v.tx)
theorem verAt {w : World} {B : Nat} {A : Option Addr} {vs : List Vr} (h : RdV w B A (vrow vs)) {i : Nat} {v : Vr} (hi : vs[i]? = some v) : ∃ ad, A = some ad ∧ ad.block < B ∧ VerAt w (ad.add (i * 6)) v := by
  have hlt := (List.getElem?_eq_some_iff.1 hi).1
  obtain ⟨ad, e, h1, h3⟩ := h (by rw [vrow_len]; omega)
  have hc : ∀ j u, j < 6 → v.cs[j]? = some u → w.cell? (ad.add (i * 6 + j)) = some u := fun j u hj hu => h3 _ _ ((vrow_at hi hj).trans hu)
  refine ⟨ad, e, h1, hc 0 _ (by omega) rfl, ?_, ?_, ?_, ?_, ?_⟩
  · have := hc 1 _ (by omega) rfl; rw [← Addr.add_add] at this; exact this
  · have := hc 2 _ (by omega) rfl; rw [← Addr.add_add] at this; exact this
  · have := hc 3 _ (by omega) rfl; rw [← Addr.add_add] at this; exact this
  · have := hc 4 _ (by omega) rfl; rw [← Addr.add_add] at this; exact this
  · have := hc 5 _ (by omega) rfl; rw [← Addr.add_add] at this; exact this
theorem verFields : (Try.prog.fieldsOf 33).toList.map (fun f => (f.name, f.type, f.offset)) = [("Key", 9, 0), ("Val", 9, 1), ("Gone", 4, 2), ("TS", 31, 3), ("DC", 3, 4), ("Tx", 3, 5)] := by kernel_rfl
theorem run_part_str {P : Program} {w : World} (e : TypeId) (he : P.underlying e = some .string) (i : Nat) (cs : Array Value) (v : Value) (h : cs[i]? = some v) : (part e cs i).run P w = .ok v w := by
  simp [part, isAgg, run_underlying he, h]
theorem eqFields_same {P : Program} (d : Nat) (xs : Array Value) (w : World) : ∀ (fs : List Field), (∀ f ∈ fs, ∃ v, (part f.type xs f.offset).run P w = .ok v w ∧ (Op.equalIn d f.type v v).run P w = .ok true w) → (Op.eqFields d xs xs fs).run P w = .ok true w
  | [], _ => by simp [Op.eqFields]
  | f :: fs, h => by
    obtain ⟨v, h1, h2⟩ := h f (List.mem_cons_self ..)
    have ih := eqFields_same d xs w fs fun g hg => h g (List.mem_cons_of_mem _ hg)
    unfold Op.eqFields
    split
    · simp only [Sem.run_bind, h1, h2, Result.andThen_ok, Bool.not_true, Bool.false_eq_true, if_false]
      exact ih
    · exact ih
theorem eql_ver (v : Vr) (w : World) : (Op.equalIn 10000 33 (.agg #[.string v.key, .string v.val, .bool v.gone, .int .u64 v.ts, .int .i64 v.dc, .int .i64 v.tx]) (.agg #[.string v.key, .string v.val, .bool v.gone, .int .u64 v.ts, .int .i64 v.dc, .int .i64 v.tx])).run Try.prog w = .ok true w := by
  rw [run_equalIn_struct w 9999 33 _ _ Try.underlying33 (by kernel_rfl)]
  refine eqFields_same 9999 _ w _ fun f hf => ?_
  have hm : (f.name, f.type, f.offset) ∈ [("Key", 9, 0), ("Val", 9, 1), ("Gone", 4, 2), ("TS", 31, 3), ("DC", 3, 4), ("Tx", 3, 5)] := by
    rw [← verFields]
    exact List.mem_map.2 ⟨f, hf, rfl⟩
  simp only [List.mem_cons, List.not_mem_nil, or_false, Prod.mk.injEq] at hm
  rcases hm with ⟨_, ht, ho⟩ | ⟨_, ht, ho⟩ | ⟨_, ht, ho⟩ | ⟨_, ht, ho⟩ | ⟨_, ht, ho⟩ | ⟨_, ht, ho⟩ <;> rw [ht, ho]
  · exact ⟨.string v.key, run_part_str _ Try.underlying9 _ _ _ rfl, (run_equalIn_string w 9998 _ _ _ Try.underlying9).trans (by simp)⟩
  · exact ⟨.string v.val, run_part_str _ Try.underlying9 _ _ _ rfl, (run_equalIn_string w 9998 _ _ _ Try.underlying9).trans (by simp)⟩
  · exact ⟨.bool v.gone, run_part_bool _ Try.underlying4 _ _ _ rfl, (run_equalIn_bool' w 9998 _ _ _ Try.underlying4).trans (by simp)⟩
  · exact ⟨.int .u64 v.ts, run_part_int _ .u64 Try.underlying31 _ _ _ rfl, (run_equalIn_int w 9998 _ _ _ _ _ Try.underlying31).trans (by simp)⟩
  · exact ⟨.int .i64 v.dc, run_part_int _ .i64 Try.underlying3 _ _ _ rfl, (run_equalIn_int w 9998 _ _ _ _ _ Try.underlying3).trans (by simp)⟩
  · exact ⟨.int .i64 v.tx, run_part_int _ .i64 Try.underlying3 _ _ _ rfl, (run_equalIn_int w 9998 _ _ _ _ _ Try.underlying3).trans (by simp)⟩
set_option maxHeartbeats 4000000 in
set_option maxRecDepth 20000 in
theorem same_vers (vs : List Vr) (A B : Option Addr) (c d Ba Bb : Nat) (w : World) (ha : RdV w Ba A (vrow vs)) (hb : RdV w Bb B (vrow vs)) (h1 : Ba ≤ w.heap.size) (h2 : Bb ≤ w.heap.size) (hl : vs.length ≤ 1000000000) :
    Calls Try.prog 13 #[.slice A vs.length c, .slice B vs.length d] w fun e w' => e = .returned (.bool true) ∧ Below w.heap.size w w' := by
  have HA := hide ha
  have HBB := hide hb
  clear ha hb
  go_enter Try.func13, Try.ntmps13
  go_wp2_with fail
  go_loopw [5] (fun i wr => ∃ k : Nat, k ≤ vs.length ∧ i = .int .i64 k ∧ Below w.heap.size w wr) (fun i _ => vs.length - (intOf i).toNat)
  case atStart => exact ⟨0, by omega, rfl, Below.refl _ _⟩
  case round =>
    obtain ⟨k, hk, rfl, hb⟩ := hrel
    have HB := hide hb
    clear hb
    by_cases hlt : k < vs.length
    · obtain ⟨v, hv⟩ : ∃ v, vs[k]? = some v := ⟨vs[k], List.getElem?_eq_getElem hlt⟩
      obtain ⟨ad, hA, _, a0, a1, a2, a3, a4, a5⟩ := verAt (((unhide HA).more h1).below (unhide HB)) hv
      obtain ⟨bd, hB, _, b0, b1, b2, b3, b4, b5⟩ := verAt (((unhide HBB).more h2).below (unhide HB)) hv
      subst hA hB
      have heq := eql_ver v
      obtain ⟨ky, vl, g, ts, dc, tx⟩ := v
      simp only at a0 a1 a2 a3 a4 a5 b0 b1 b2 b3 b4 b5 heq
      clear hv
      go_upto_region 6 with fail
      go_region_law fail
      all_goals go_wp2_with fail
      all_goals exact ⟨⟨k + 1, by omega, by go_num, (unhide HB).trans (below_drewN' (Below.refl _ _) 1)⟩, by simp [intOf]; omega⟩
    · obtain rfl : k = vs.length := by omega
      go_wp2_with fail
      go_ret
      exact ⟨rfl, unhide HB⟩
end Go.Proofs.Ytcljendidhfobaa
