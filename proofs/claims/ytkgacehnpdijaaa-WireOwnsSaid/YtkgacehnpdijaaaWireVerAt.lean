/- A version's six cells; a message's fourteen. -/
import Derived.Test.YtkgacehnpdijaaaWireNums
namespace Go.Proofs.Ytkgacehnpdijaaa
set_option linter.unusedVariables false
open Go.RowKit Wire

/-- a version's six cells from q on -/
def VerAt (w : World) (q : Addr) (v : Vr) : Prop :=
  w.cell? q = some (.string v.key) ∧ w.cell? ⟨q.block, q.off + 1, none⟩ = some (.string v.val) ∧ w.cell? ⟨q.block, q.off + 2, none⟩ = some (.bool v.gone) ∧ w.cell? ⟨q.block, q.off + 3, none⟩ = some (.int .u64 v.ts) ∧ w.cell? ⟨q.block, q.off + 4, none⟩ = some (.int .i64 v.dc) ∧ w.cell? ⟨q.block, q.off + 5, none⟩ = some (.int .i64 v.tx)
theorem verAt {w : World} {B : Nat} {A : Option Addr} {vs : List Vr} (h : RdV w B A (vrow vs)) {i : Nat} {v : Vr} (hi : vs[i]? = some v) : ∃ ad, A = some ad ∧ ad.block < B ∧ VerAt w (ad.add (i * 6)) v := by
  have hlt := (List.getElem?_eq_some_iff.1 hi).1
  obtain ⟨ad, e, h1, h3⟩ := h (by rw [vrow_len]; omega)
  have hc : ∀ j u, j < 6 → (vcs v)[j]? = some u → w.cell? (ad.add (i * 6 + j)) = some u := fun j u hj hu => h3 _ _ ((vrow_at hi hj).trans hu)
  refine ⟨ad, e, h1, hc 0 _ (by omega) rfl, ?_, ?_, ?_, ?_, ?_⟩
  · have := hc 1 _ (by omega) rfl; rw [← Addr.add_add] at this; exact this
  · have := hc 2 _ (by omega) rfl; rw [← Addr.add_add] at this; exact this
  · have := hc 3 _ (by omega) rfl; rw [← Addr.add_add] at this; exact this
  · have := hc 4 _ (by omega) rfl; rw [← Addr.add_add] at this; exact this
  · have := hc 5 _ (by omega) rfl; rw [← Addr.add_add] at this; exact this
abbrev mcells (m : Ms) (A : Option Addr) (c : Nat) (vA : Option Addr) (vc : Nat) : Array Value := #[.int .i64 m.kind, .int .u64 m.id, .int .u64 m.n, .int .u64 m.ts, .string m.lo, .string m.hi, .slice A m.vers.length c, .slice vA m.vec.length vc, .int .i64 m.cmd.kind, .int .i64 m.cmd.dc, .int .i64 m.cmd.shard, .int .i64 m.cmd.node, .int .i64 m.cmd.mode, .string m.cmd.key]
/-- a message's fourteen cells -/
theorem mAt {m : Ms} {A : Option Addr} {c : Nat} {vA : Option Addr} {vc : Nat} {w : World} {g : Nat} {ty : TypeId} (h : Blk w g ty (mcells m A c vA vc)) :
    w.cell? ⟨g, 0, none⟩ = some (.int .i64 m.kind) ∧ w.cell? ⟨g, 1, none⟩ = some (.int .u64 m.id) ∧ w.cell? ⟨g, 2, none⟩ = some (.int .u64 m.n) ∧ w.cell? ⟨g, 3, none⟩ = some (.int .u64 m.ts) ∧ w.cell? ⟨g, 4, none⟩ = some (.string m.lo) ∧ w.cell? ⟨g, 5, none⟩ = some (.string m.hi) ∧ w.cell? ⟨g, 6, none⟩ = some (.slice A m.vers.length c) ∧ w.cell? ⟨g, 7, none⟩ = some (.slice vA m.vec.length vc) ∧
    w.cell? ⟨g, 8, none⟩ = some (.int .i64 m.cmd.kind) ∧ w.cell? ⟨g, 9, none⟩ = some (.int .i64 m.cmd.dc) ∧ w.cell? ⟨g, 10, none⟩ = some (.int .i64 m.cmd.shard) ∧ w.cell? ⟨g, 11, none⟩ = some (.int .i64 m.cmd.node) ∧ w.cell? ⟨g, 12, none⟩ = some (.int .i64 m.cmd.mode) ∧ w.cell? ⟨g, 13, none⟩ = some (.string m.cmd.key) :=
  ⟨h.cell 0, h.cell 1, h.cell 2, h.cell 3, h.cell 4, h.cell 5, h.cell 6, h.cell 7, h.cell 8, h.cell 9, h.cell 10, h.cell 11, h.cell 12, h.cell 13⟩
theorem chkL_drop {vs : List Vr} {k : Nat} {v : Vr} (h : vs[k]? = some v) (h0 : chkV v = 0) : chkL (vs.drop k) = chkL (vs.drop (k + 1)) := by
  rw [List.drop_eq_getElem?_toList_append, h]
  exact if_pos h0
theorem chkL_hit {vs : List Vr} {k : Nat} {v : Vr} (h : vs[k]? = some v) (h0 : chkV v ≠ 0) : chkL (vs.drop k) = chkV v := by
  rw [List.drop_eq_getElem?_toList_append, h]
  exact if_neg h0
/-- what is asked of the whole behind the versions -/
def chkZ (m : Ms) : Int := if 32 < m.vec.length then 6 else if m.cmd.nums.any badN = true then 1 else if 16 < m.cmd.key.data.toList.length then 6 else 0
theorem chkOf_k {m : Ms} (h : m.kind < 1 ∨ 26 < m.kind) : chkOf m = 5 := by unfold chkOf; rw [if_pos h]
theorem chkOf_l {m : Ms} (h : ¬ (m.kind < 1 ∨ 26 < m.kind)) (h2 : 16 < m.lo.size ∨ 16 < m.hi.size ∨ 4096 < m.vers.length) : chkOf m = 6 := by
  unfold chkOf
  rw [if_neg h, size_list', size_list', if_pos h2]
theorem chkOf_v {m : Ms} (h : ¬ (m.kind < 1 ∨ 26 < m.kind)) (h2 : ¬ (16 < m.lo.size ∨ 16 < m.hi.size ∨ 4096 < m.vers.length)) : chkOf m = if chkL m.vers ≠ 0 then chkL m.vers else chkZ m := by
  unfold chkOf
  rw [if_neg h, size_list', size_list', if_neg h2]
  rfl
end Go.Proofs.Ytkgacehnpdijaaa
