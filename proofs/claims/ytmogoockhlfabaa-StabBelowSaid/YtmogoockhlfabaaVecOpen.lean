/- Vectors that come in, and '==' of vectors. -/
import Derived.Test.YtmogoockhlfabaaFrame
import Derived.Test.YtmogoockhlfabaaEqual
import Derived.Test.YtmogoockhlfabaaKnown
import Derived.Test.YtmogoockhlfabaaVecResize
import Derived.Laws.IdiomArrays
import Derived.Deep.Strs
namespace Go.Proofs.Ytmogoockhlfabaa
open Go.RowKit Go.ChangeShapes Go.WideShapes
set_option linter.unusedVariables false

section
variable {H : Type} {enc : TypeId × Value → H} {W : World} {k : DataW H → Prop}
theorem cell_bool {P : Program} {w : World} {base : Nat} {sp : Nat → Bool} {hd : Bool} {t : TypeId} {fuel : Nat} {c : Value} {x : DataW H × List MemPlace} (ht : P.underlying t = some .bool) (h : DataW.trod enc P w base sp hd fuel t [c] = some x) : ∃ b, c = .bool b := by
  obtain ⟨b, hb, _⟩ := DataW.trod_bool ht h
  exact ⟨b, by simpa using hb⟩
theorem cell_u64 {P : Program} {w : World} {base : Nat} {sp : Nat → Bool} {hd : Bool} {t : TypeId} {fuel : Nat} {c : Value} {x : DataW H × List MemPlace} (ht : P.underlying t = some (.int .u64)) (h : DataW.trod enc P w base sp hd fuel t [c] = some x) : ∃ n : Int, c = .int .u64 n ∧ 0 ≤ n ∧ n ≤ 18446744073709551615 := by
  obtain ⟨n, hb, _, w⟩ := DataW.trod_int ht h
  simp [Lit.wf, IntKind.min, IntKind.max, IntKind.signed, IntKind.bits] at w
  exact ⟨n, by simpa using hb, w.1, w.2⟩
theorem cell_i64 {P : Program} {w : World} {base : Nat} {sp : Nat → Bool} {hd : Bool} {t : TypeId} {fuel : Nat} {c : Value} {x : DataW H × List MemPlace} (ht : P.underlying t = some (.int .i64)) (h : DataW.trod enc P w base sp hd fuel t [c] = some x) : ∃ n : Int, c = .int .i64 n ∧ -9223372036854775808 ≤ n ∧ n ≤ 9223372036854775807 := by
  obtain ⟨n, hb, _, w⟩ := DataW.trod_int ht h
  simp [Lit.wf, IntKind.min, IntKind.max, IntKind.signed, IntKind.bits] at w
  exact ⟨n, by simpa using hb, w.1, w.2⟩
/-- four bools, four numbers as functions of their places -/
def four {α : Type} (d a b c e : α) (i : Nat) : α := if i = 0 then a else if i = 1 then b else if i = 2 then c else if i = 3 then e else d
theorem Came.has {x : Value} (h : Came enc Try.prog W k 22 x) : ∃ a : Nat → Bool, x = .agg (Vec.hasCells a) := by
  obtain ⟨d, p, base, ⟨fuel, hf⟩, hok, _, _⟩ := h
  have h4 : Try.prog.underlying 22 = some (.array 4 4) := Try.underlying22
  have hcs : ∃ cs, x = .agg cs ∧ cs.size = 4 := by
    simp only [Value.okWide, h4] at hok
    obtain ⟨cs, rfl, hs, _⟩ := hok
    exact ⟨cs, rfl, hs⟩
  obtain ⟨cs, rfl, hs⟩ := hcs
  match cs, hs with
  | ⟨[c0, c1, c2, c3]⟩, _ =>
    obtain ⟨y0, y1, y2, y3, n, _, e0, e1, e2, e3⟩ := trod_array4 h4 (by kernel_rfl) hf
    obtain ⟨b0, rfl⟩ := cell_bool Try.underlying4 e0
    obtain ⟨b1, rfl⟩ := cell_bool Try.underlying4 e1
    obtain ⟨b2, rfl⟩ := cell_bool Try.underlying4 e2
    obtain ⟨b3, rfl⟩ := cell_bool Try.underlying4 e3
    exact ⟨four false b0 b1 b2 b3, rfl⟩
/-- a vector as it comes in: its numbers are within their kinds -/
structure Vec.Ok (v : Vec.V) : Prop where
  e : -9223372036854775808 ≤ v.ep ∧ v.ep ≤ 9223372036854775807
  t : ∀ i, 0 ≤ v.t i ∧ v.t i ≤ 18446744073709551615
theorem Came.vec {x : Value} (h : Came enc Try.prog W k 42 x) : ∃ v : Vec.V, x = Vec.val v ∧ Vec.Ok v := by
  obtain ⟨d, p, base, ⟨fuel, hf⟩, hok, _, _⟩ := h
  obtain ⟨cs, rfl, hs⟩ := okWide_struct Try.underlying42 hok
  have hs : cs.size = 9 := hs.trans (by kernel_rfl)
  match cs, hs with
  | ⟨[c0, c1, c2, c3, c4, c5, c6, c7, c8]⟩, _ =>
    obtain ⟨y0, y1, y2, n, _, _, e0, e1, e2⟩ := Deep.trod_struct3 Try.underlying42 hf
    have e0 : DataW.trod enc Try.prog W 0 (fun _ => true) true n 3 [c0] = some y0 := e0
    have e1 : DataW.trod enc Try.prog W 0 (fun _ => true) true n 22 [c1, c2, c3, c4] = some y1 := e1
    have e2 : DataW.trod enc Try.prog W 0 (fun _ => true) true n 40 [c5, c6, c7, c8] = some y2 := e2
    obtain ⟨ep, rfl, hep⟩ := cell_i64 Try.underlying3 e0
    obtain ⟨_, _, _, _, n1, _, e3, e4, e5, e6⟩ := trod_array4 Try.underlying22 (by kernel_rfl) e1
    obtain ⟨_, _, _, _, n2, _, e7, e8, e9, ea⟩ := trod_array4 Try.underlying40 (by kernel_rfl) e2
    obtain ⟨b0, rfl⟩ := cell_bool Try.underlying4 e3
    obtain ⟨b1, rfl⟩ := cell_bool Try.underlying4 e4
    obtain ⟨b2, rfl⟩ := cell_bool Try.underlying4 e5
    obtain ⟨b3, rfl⟩ := cell_bool Try.underlying4 e6
    obtain ⟨t0, rfl, h0⟩ := cell_u64 Try.underlying29 e7
    obtain ⟨t1, rfl, h1⟩ := cell_u64 Try.underlying29 e8
    obtain ⟨t2, rfl, h2⟩ := cell_u64 Try.underlying29 e9
    obtain ⟨t3, rfl, h3⟩ := cell_u64 Try.underlying29 ea
    refine ⟨⟨ep, four false b0 b1 b2 b3, four 0 t0 t1 t2 t3⟩, rfl, hep, fun i => ?_⟩
    show 0 ≤ four 0 t0 t1 t2 t3 i ∧ four 0 t0 t1 t2 t3 i ≤ 18446744073709551615
    unfold four
    split
    · exact h0
    · split
      · exact h1
      · split
        · exact h2
        · split
          · exact h3
          · omega
end

/-- all cells of a vector's block -/
theorem Vec.cellsAt {w : World} {g : Nat} {t : TypeId} {v : Vec.V} (h : Blk w g t (Vec.cells v)) :
    w.cell? ⟨g, 0, none⟩ = some (.int .i64 v.ep) ∧ w.cell? ⟨g, 1, none⟩ = some (.bool (v.h 0)) ∧ w.cell? ⟨g, 2, none⟩ = some (.bool (v.h 1)) ∧ w.cell? ⟨g, 3, none⟩ = some (.bool (v.h 2)) ∧ w.cell? ⟨g, 4, none⟩ = some (.bool (v.h 3)) ∧
    w.cell? ⟨g, 5, none⟩ = some (.int .u64 (v.t 0)) ∧ w.cell? ⟨g, 6, none⟩ = some (.int .u64 (v.t 1)) ∧ w.cell? ⟨g, 7, none⟩ = some (.int .u64 (v.t 2)) ∧ w.cell? ⟨g, 8, none⟩ = some (.int .u64 (v.t 3)) :=
  ⟨h.cell 0, h.cell 1, h.cell 2, h.cell 3, h.cell 4, h.cell 5, h.cell 6, h.cell 7, h.cell 8⟩
/-- '==' of two vectors that are the same -/
theorem Vec.eqlIn (T : TypeId) (hT : Try.prog.underlying T = Try.prog.underlying 42) (hp : Try.prog.stoodInHeld T = false) (v : Vec.V) (w : World) (cs : Array Value) (h : cs = Vec.cells v) :
    (Op.equalIn 10000 T (.agg cs) (.agg (Vec.cells v))).run Try.prog w = .ok true w := by
  subst h
  have hf : Try.prog.fieldsOf T = Try.prog.fieldsOf 42 := by unfold Program.fieldsOf; rw [hT]
  have hu : Try.prog.underlying T = some (.struct (Try.prog.fieldsOf T)) := by rw [hT, hf]; rfl
  rw [run_equalIn_agg w 9999 T _ _ hu hp, hf]
  have e : (Try.prog.fieldsOf 42).toList = [⟨ "Epoch", 3, 0, false, "", "", 0⟩, ⟨ "Has", 22, 1, false, "", "", 8⟩, ⟨ "T", 40, 5, false, "", "", 16⟩] := by kernel_rfl
  rw [e]
  have p0 : (part 3 (Vec.cells v) 0).run Try.prog w = .ok (.int .i64 v.ep) w := run_part_int 3 .i64 Try.underlying3 0 _ _ rfl
  have p1 : (part 22 (Vec.cells v) 1).run Try.prog w = .ok (.agg #[.bool (v.h 0), .bool (v.h 1), .bool (v.h 2), .bool (v.h 3)]) w := rfl
  have p2 : (part 40 (Vec.cells v) 5).run Try.prog w = .ok (.agg #[.int .u64 (v.t 0), .int .u64 (v.t 1), .int .u64 (v.t 2), .int .u64 (v.t 3)]) w := rfl
  have q0 := run_equalIn_int (P := Try.prog) w 9998 3 .i64 .i64 v.ep v.ep Try.underlying3
  have q1 := run_equalIn_four_bool (P := Try.prog) (w := w) 9997 22 4 v.h v.h Try.underlying22 Try.underlying4 rfl
  have q2 := run_equalIn_four_int (P := Try.prog) (w := w) 9997 40 29 .u64 v.t v.t Try.underlying40 Try.underlying29 rfl
  simp [Op.eqFields, p0, p1, p2, q0, q1, q2]
end Go.Proofs.Ytmogoockhlfabaa
