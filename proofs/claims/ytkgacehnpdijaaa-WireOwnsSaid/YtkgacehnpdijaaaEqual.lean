/- '==' of arrays of four and of structs, in plain words. No function in sight. -/
import Derived.Test.YtkgacehnpdijaaaMem
import Derived.Laws.StructEq
import Derived.BigQuiet
namespace Go.Proofs.Ytkgacehnpdijaaa
set_option linter.unusedVariables false
open Go.RowKit

/-- four values each, held against each other one by one -/
theorem run_equalIn_four {P : Program} {w : World} (d : Nat) (t e : TypeId) (a0 a1 a2 a3 b0 b1 b2 b3 : Value) (c0 c1 c2 c3 : Bool) (ht : P.underlying t = some (.array 4 e)) (hs : (sizeOf e).run P w = .ok 1 w)
    (h0 : (Op.equalIn d e a0 b0).run P w = .ok c0 w) (h1 : (Op.equalIn d e a1 b1).run P w = .ok c1 w)
    (h2 : (Op.equalIn d e a2 b2).run P w = .ok c2 w) (h3 : (Op.equalIn d e a3 b3).run P w = .ok c3 w)
    (p : ∀ (i : Nat) (cs : Array Value) (v : Value), cs[i]? = some v → (part e cs i).run P w = .ok v w) :
    (Op.equalIn (d + 1) t (.agg #[a0, a1, a2, a3]) (.agg #[b0, b1, b2, b3])).run P w = .ok (c0 && c1 && c2 && c3) w := by
  simp only [Op.equalIn, Sem.run_bind, run_underlying ht, Result.andThen_ok, hs]
  have q0 := p 0 #[a0, a1, a2, a3] a0 rfl
  have q1 := p 1 #[a0, a1, a2, a3] a1 rfl
  have q2 := p 2 #[a0, a1, a2, a3] a2 rfl
  have q3 := p 3 #[a0, a1, a2, a3] a3 rfl
  have r0 := p 0 #[b0, b1, b2, b3] b0 rfl
  have r1 := p 1 #[b0, b1, b2, b3] b1 rfl
  have r2 := p 2 #[b0, b1, b2, b3] b2 rfl
  have r3 := p 3 #[b0, b1, b2, b3] b3 rfl
  clear p
  cases c0 <;> cases c1 <;> cases c2 <;> cases c3 <;>
    simp [Std.Legacy.Range.forIn_eq_forIn_range', List.range', q0, q1, q2, q3, r0, r1, r2, r3, h0, h1, h2, h3]
theorem run_part_bool {P : Program} {w : World} (e : TypeId) (he : P.underlying e = some .bool) (i : Nat) (cs : Array Value) (v : Value) (h : cs[i]? = some v) : (part e cs i).run P w = .ok v w := by
  simp [part, isAgg, run_underlying he, h]
theorem run_part_int {P : Program} {w : World} (e : TypeId) (k : IntKind) (he : P.underlying e = some (.int k)) (i : Nat) (cs : Array Value) (v : Value) (h : cs[i]? = some v) : (part e cs i).run P w = .ok v w := by
  simp [part, isAgg, run_underlying he, h]
theorem run_equalIn_four_bool {P : Program} {w : World} (d : Nat) (t e : TypeId) (a b : Nat → Bool) (ht : P.underlying t = some (.array 4 e)) (he : P.underlying e = some .bool) (hs : (sizeOf e).run P w = .ok 1 w) :
    (Op.equalIn (d + 1 + 1) t (.agg #[.bool (a 0), .bool (a 1), .bool (a 2), .bool (a 3)]) (.agg #[.bool (b 0), .bool (b 1), .bool (b 2), .bool (b 3)])).run P w = .ok (a 0 == b 0 && a 1 == b 1 && a 2 == b 2 && a 3 == b 3) w :=
  run_equalIn_four (d + 1) t e _ _ _ _ _ _ _ _ _ _ _ _ ht hs (run_equalIn_bool' _ _ _ _ _ he) (run_equalIn_bool' _ _ _ _ _ he) (run_equalIn_bool' _ _ _ _ _ he) (run_equalIn_bool' _ _ _ _ _ he) (run_part_bool e he)
theorem run_equalIn_four_int {P : Program} {w : World} (d : Nat) (t e : TypeId) (k : IntKind) (a b : Nat → Int) (ht : P.underlying t = some (.array 4 e)) (he : P.underlying e = some (.int k)) (hs : (sizeOf e).run P w = .ok 1 w) :
    (Op.equalIn (d + 1 + 1) t (.agg #[.int k (a 0), .int k (a 1), .int k (a 2), .int k (a 3)]) (.agg #[.int k (b 0), .int k (b 1), .int k (b 2), .int k (b 3)])).run P w = .ok (a 0 == b 0 && a 1 == b 1 && a 2 == b 2 && a 3 == b 3) w :=
  run_equalIn_four (d + 1) t e _ _ _ _ _ _ _ _ _ _ _ _ ht hs (run_equalIn_int _ _ _ _ _ _ _ he) (run_equalIn_int _ _ _ _ _ _ _ he) (run_equalIn_int _ _ _ _ _ _ _ he) (run_equalIn_int _ _ _ _ _ _ _ he) (run_part_int e k he)

/-! ### '==' of structs in a walk: the fact is 'Op.equalIn 10000', in the world at hand -/
section
variable {P : Program} {a : Act} {o : Oper} {ops : Array Oper} {rest : List Oper}
theorem run_eql_agg {T u : TypeId} {x y : Operand} {xs ys : Array Value} {w : World} {b : Bool} (ho : o.op = .binOp .eql T x y u) (hx : a.eval x = .agg xs) (hy : a.eval y = .agg ys)
    (hm : P.eqGuardType P.depth T = false) (he : (Op.equalIn 10000 T (.agg xs) (.agg ys)).run P w = .ok b w) : (execOp a.eval o).run P w = .ok (.value (.bool b)) w := by
  simp [execOp, ho, hx, hy, run_eqGuard_agg _ _ _ _ _ _ _ hm, run_eql_struct, he]
theorem run_neq_agg {T u : TypeId} {x y : Operand} {xs ys : Array Value} {w : World} {b : Bool} (ho : o.op = .binOp .neq T x y u) (hx : a.eval x = .agg xs) (hy : a.eval y = .agg ys)
    (hm : P.eqGuardType P.depth T = false) (he : (Op.equalIn 10000 T (.agg xs) (.agg ys)).run P w = .ok b w) : (execOp a.eval o).run P w = .ok (.value (.bool !b)) w := by
  simp [execOp, ho, hx, hy, run_eqGuard_agg _ _ _ _ _ _ _ hm, run_neq_struct, he]
theorem quiet_eql {C : World → Prop} {K : Act → Prop} {T u : TypeId} {x y : Operand} (xs ys : Array Value) (b : Bool) (ho : o.op = .binOp .eql T x y u) (hx : a.eval x = .agg xs) (hy : a.eval y = .agg ys)
    (hm : P.eqGuardType P.depth T = false) (he : ∀ w, (Op.equalIn 10000 T (.agg xs) (.agg ys)).run P w = .ok b w) (hk : K (a.put o.dst (.bool b))) : o.quiet P a C K :=
  ⟨_, fun w _ => by unfold Oper.quietAt; rw [run_eql_agg ho hx hy hm (he w)]; exact ⟨rfl, rfl⟩, hk⟩
theorem quiet_neq {C : World → Prop} {K : Act → Prop} {T u : TypeId} {x y : Operand} (xs ys : Array Value) (b : Bool) (ho : o.op = .binOp .neq T x y u) (hx : a.eval x = .agg xs) (hy : a.eval y = .agg ys)
    (hm : P.eqGuardType P.depth T = false) (he : ∀ w, (Op.equalIn 10000 T (.agg xs) (.agg ys)).run P w = .ok b w) (hk : K (a.put o.dst (.bool !b))) : o.quiet P a C K :=
  ⟨_, fun w _ => by unfold Oper.quietAt; rw [run_neq_agg ho hx hy hm (he w)]; exact ⟨rfl, rfl⟩, hk⟩
end
end Go.Proofs.Ytkgacehnpdijaaa
