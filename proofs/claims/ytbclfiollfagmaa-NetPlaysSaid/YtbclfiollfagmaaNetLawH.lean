/- What NetPlays' end goes by: prefixes, and two pairs held against each other. -/
import Derived.Test.YtbclfiollfagmaaNetLawF
import Derived.Test.YtbclfiollfagmaaEqual
namespace Go.Proofs.Ytbclfiollfagmaa
open Go.RowKit Go.Shelf
set_option linter.unusedVariables false

theorem run_equalIn_two_int {P : Program} {w : World} (d : Nat) (t e : TypeId) (k : IntKind) (a0 a1 b0 b1 : Int) (ht : P.underlying t = some (.array 2 e)) (he : P.underlying e = some (.int k)) (hs : (sizeOf e).run P w = .ok 1 w) :
    (Op.equalIn (d + 1 + 1) t (.agg #[.int k a0, .int k a1]) (.agg #[.int k b0, .int k b1])).run P w = .ok (a0 == b0 && a1 == b1) w := by
  have p := fun (i : Nat) (cs : Array Value) (v : Value) (h : cs[i]? = some v) => run_part_int (P := P) (w := w) e k he i cs v h
  have h0 : (Op.equalIn (d + 1) e (.int k a0) (.int k b0)).run P w = .ok (a0 == b0) w := run_equalIn_int _ _ _ _ _ _ _ he
  have h1 : (Op.equalIn (d + 1) e (.int k a1) (.int k b1)).run P w = .ok (a1 == b1) w := run_equalIn_int _ _ _ _ _ _ _ he
  rw [Op.equalIn]
  simp only [Sem.run_bind, run_underlying ht, Result.andThen_ok, hs]
  have q0 := p 0 #[.int k a0, .int k a1] _ rfl
  have q1 := p 1 #[.int k a0, .int k a1] _ rfl
  have r0 := p 0 #[.int k b0, .int k b1] _ rfl
  have r1 := p 1 #[.int k b0, .int k b1] _ rfl
  clear p
  generalize (a0 == b0) = c0 at h0 ⊢
  generalize (a1 == b1) = c1 at h1 ⊢
  cases c0 <;> cases c1 <;> simp [Std.Legacy.Range.forIn_eq_forIn_range', List.range', q0, q1, r0, r1, h0, h1]
theorem eql_pair (x y : Nat × Nat) (w : World) : (Op.equalIn 10000 56 (.agg #[.int .i64 (x.1 : Int), .int .i64 (x.2 : Int)]) (.agg #[.int .i64 (y.1 : Int), .int .i64 (y.2 : Int)])).run Try.prog w = .ok (decide (x = y)) w := by
  have h := run_equalIn_two_int (P := Try.prog) (w := w) 9998 56 3 .i64 (x.1 : Int) (x.2 : Int) (y.1 : Int) (y.2 : Int) Try.underlying56 Try.underlying3 rfl
  have e : (((x.1 : Int) == (y.1 : Int)) && ((x.2 : Int) == (y.2 : Int))) = decide (x = y) := by
    by_cases h1 : x = y
    · subst h1; simp
    · rw [decide_eq_false h1]
      by_cases h2 : x.1 = y.1
      · have h3 : ¬ x.2 = y.2 := fun e => h1 (Prod.ext h2 e)
        simp
        omega
      · have : ((x.1 : Int) == (y.1 : Int)) = false := beq_eq_false_iff_ne.2 (by omega)
        rw [this]
        rfl
  rw [e] at h
  exact h
theorem wto_step (s : NS) (k : Nat) : ∃ t, wto s (k + 1) = wto s k ++ t := by
  rcases Nat.eq_zero_or_pos (s.ways k).ps.length with h | h
  · exact ⟨[], by rw [wto_no s k h, List.append_nil]⟩
  · exact ⟨_, wto_yes s k h⟩
theorem wto_pre (s : NS) (k : Nat) : ∀ j, ∃ t, wto s (k + j) = wto s k ++ t
  | 0 => ⟨[], by simp⟩
  | j + 1 => by
    obtain ⟨t, ht⟩ := wto_pre s k j
    obtain ⟨u, hu⟩ := wto_step s (k + j)
    exact ⟨t ++ u, by rw [← Nat.add_assoc, hu, ht, List.append_assoc]⟩
theorem wto_take (s : NS) {k m : Nat} (h : k ≤ m) : wto s k = (wto s m).take (wto s k).length ∧ (wto s k).length ≤ (wto s m).length := by
  obtain ⟨t, ht⟩ := wto_pre s k (m - k)
  rw [show k + (m - k) = m by omega] at ht
  rw [ht]
  exact ⟨by rw [List.take_left], by simp⟩
theorem results_cell_bool {P : Program} {fn : Func} {p : Tmp} {ty : TypeId} (h : fn.results = #[.cell p ty]) (hu : P.underlying ty = some .bool) (tmps : Array Value) (w : World) (ad : Addr) (b : Bool)
    (hp : tmps.getD p undef = .pointer (some ad)) (hc : w.cell? ad = some (.bool b)) : (results fn tmps).run P w = .ok (.bool b) w := by
  have hp' : tmps[p]?.getD undef = .pointer (some ad) := by simpa using hp
  simp [results, h, hp', isAgg, run_underlying hu, go_sem, hc]
end Go.Proofs.Ytbclfiollfagmaa
