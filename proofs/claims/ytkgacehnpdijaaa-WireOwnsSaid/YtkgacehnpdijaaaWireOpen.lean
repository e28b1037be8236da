/- Messages that came in. -/
import Derived.Test.YtkgacehnpdijaaaOpenRow
import Derived.Test.YtkgacehnpdijaaaKnown
import Derived.Test.YtkgacehnpdijaaaWireGood
namespace Go.Proofs.Ytkgacehnpdijaaa
open Go.ChangeShapes Go.WideShapes Go.ChangeAt Go.RowKit
set_option linter.unusedVariables false
open Wire

theorem flat_len {α β : Type} (f : α → List β) (k : Nat) (hf : ∀ x, (f x).length = k) : ∀ l : List α, (l.flatMap f).length = l.length * k
  | [] => by simp
  | x :: r => by rw [List.flatMap_cons, List.length_append, hf, flat_len f k hf r, List.length_cons, Nat.succ_mul]; omega
theorem flat_at {α β : Type} (f : α → List β) (k : Nat) (hf : ∀ x, (f x).length = k) : ∀ (l : List α) (i : Nat) (x : α) (j : Nat), l[i]? = some x → j < k → (l.flatMap f)[i * k + j]? = (f x)[j]?
  | [], i, x, j, h, _ => by simp at h
  | y :: r, 0, x, j, h, hj => by
    simp at h
    subst h
    rw [List.flatMap_cons, Nat.zero_mul, Nat.zero_add, List.getElem?_append_left (by rw [hf]; exact hj)]
  | y :: r, i + 1, x, j, h, hj => by
    have ih := flat_at f k hf r i x j (by simpa using h) hj
    rw [List.flatMap_cons, List.getElem?_append_right (by rw [hf, Nat.succ_mul]; omega), hf, show (i + 1) * k + j - k = i * k + j by rw [Nat.succ_mul]; omega]
    exact ih
def vcs (v : Vr) : List Value := [.string v.key, .string v.val, .bool v.gone, .int .u64 v.ts, .int .i64 v.dc, .int .i64 v.tx]
def vrow (l : List Vr) : List Value := l.flatMap vcs
theorem vrow_len (l : List Vr) : (vrow l).length = l.length * 6 := flat_len _ 6 (fun _ => rfl) l
theorem vrow_app (a b : List Vr) : vrow (a ++ b) = vrow a ++ vrow b := by simp [vrow]
theorem vrow_at {l : List Vr} {i : Nat} {x : Vr} (h : l[i]? = some x) {j : Nat} (hj : j < 6) : (vrow l)[i * 6 + j]? = (vcs x)[j]? := flat_at _ 6 (fun _ => rfl) l i x j h hj
def I64 (n : Int) : Prop := -9223372036854775808 ≤ n ∧ n ≤ 9223372036854775807
/-- a message, and where its rows lie -/
structure Mq where
  m : Ms
  A : Option Addr
  c : Nat
  vA : Option Addr
  vc : Nat
def Mq.cells (q : Mq) : List Value := [.int .i64 q.m.kind, .int .u64 q.m.id, .int .u64 q.m.n, .int .u64 q.m.ts, .string q.m.lo, .string q.m.hi, .slice q.A q.m.vers.length q.c, .slice q.vA q.m.vec.length q.vc, .int .i64 q.m.cmd.kind, .int .i64 q.m.cmd.dc, .int .i64 q.m.cmd.shard, .int .i64 q.m.cmd.node, .int .i64 q.m.cmd.mode, .string q.m.cmd.key]
structure MsI (m : Ms) : Prop where
  kind : I64 m.kind
  vers : ∀ v ∈ m.vers, I64 v.dc ∧ I64 v.tx
  c0 : I64 m.cmd.kind
  c1 : I64 m.cmd.dc
  c2 : I64 m.cmd.shard
  c3 : I64 m.cmd.node
  c4 : I64 m.cmd.mode
structure Mq.Ok (q : Mq) (w : World) (B : Nat) : Prop where
  vers : RdV w B q.A (vrow q.m.vers)
  vec : RdV w B q.vA (q.m.vec.map (Value.int .u64))
  cap : q.m.vers.length ≤ q.c
  room : q.m.vers.length ≤ 140737488351232
  vcap : q.m.vec.length ≤ q.vc
  vroom : q.m.vec.length ≤ 140737488351232
  rng : Rng q.m
  ints : MsI q.m
theorem Mq.Ok.below {q : Mq} {w w' : World} {B : Nat} (h : q.Ok w B) (hb : Below B w w') : q.Ok w' B := { h with vers := h.vers.below hb, vec := h.vec.below hb }
section
variable {H : Type} {enc : TypeId × Value → H} {W : World} {k : DataW H → Prop}
theorem trod_ver {fuel : Nat} {cs : List Value} {d : DataW H} {p : List MemPlace} (hf : DataW.trod enc Try.prog W 0 (fun _ => true) true fuel 49 cs = some (d, p)) : ∃ v : Vr, cs = vcs v ∧ In64 v.ts ∧ I64 v.dc ∧ I64 v.tx := by
  obtain ⟨xs, n, _, hx, hl, hlen, hs⟩ := DataW.trod_struct Try.underlying49 hf
  have hl : cs.length = 6 := hl.trans (by kernel_rfl)
  match cs, hl, xs, hlen with
  | [c0, c1, c2, c3, c4, c5], _, [y0, y1, y2, y3, y4, y5], _ =>
    have e0 : DataW.trod enc Try.prog W 0 (fun _ => true) true n 9 [c0] = some y0 := hs 0 _ rfl
    have e1 : DataW.trod enc Try.prog W 0 (fun _ => true) true n 9 [c1] = some y1 := hs 1 _ rfl
    have e2 : DataW.trod enc Try.prog W 0 (fun _ => true) true n 4 [c2] = some y2 := hs 2 _ rfl
    have e3 : DataW.trod enc Try.prog W 0 (fun _ => true) true n 22 [c3] = some y3 := hs 3 _ rfl
    have e4 : DataW.trod enc Try.prog W 0 (fun _ => true) true n 3 [c4] = some y4 := hs 4 _ rfl
    have e5 : DataW.trod enc Try.prog W 0 (fun _ => true) true n 3 [c5] = some y5 := hs 5 _ rfl
    obtain ⟨a, ha, _⟩ := DataW.trod_string Try.underlying9 e0
    obtain ⟨b, hb, _⟩ := DataW.trod_string Try.underlying9 e1
    obtain ⟨g, rfl⟩ := cell_bool Try.underlying4 e2
    obtain ⟨t, rfl, t0, t1⟩ := cell_u64 Try.underlying22 e3
    obtain ⟨dc, rfl, d0, d1⟩ := cell_i64 Try.underlying3 e4
    obtain ⟨x, rfl, x0, x1⟩ := cell_i64 Try.underlying3 e5
    simp at ha hb
    subst ha hb
    exact ⟨⟨_, _, g, t, dc, x⟩, rfl, ⟨t0, by show t < 18446744073709551616; omega⟩, ⟨d0, d1⟩, ⟨x0, x1⟩⟩
theorem cell_vers {fuel : Nat} {v : Value} {y : DataW H × List MemPlace} (h : DataW.trod enc Try.prog W 0 (fun _ => true) true fuel 23 [v] = some y) (hlt : ∀ x ∈ y.2, x.block < W.heap.size) (h3 : ∀ n ∈ y.1.weights Try.prog 23, n ≤ reachBytes) :
    ∃ (A : Option Addr) (c : Nat) (vs : List Vr), v = .slice A vs.length c ∧ vs.length ≤ c ∧ c ≤ 140737488351232 ∧ RdV W W.heap.size A (vrow vs) ∧ ∀ v ∈ vs, In64 v.ts ∧ I64 v.dc ∧ I64 v.tx := by
  obtain ⟨A, n, c, rfl, h1, h2, _, hel⟩ := open_slice (s := 6) Try.underlying23 (by kernel_rfl) (by omega) h hlt h3
  obtain ⟨r, hr, hR⟩ := choose_list (R := fun i (x : Vr) => (∃ ad : Addr, A = some ad ∧ ad.block < W.heap.size ∧ ∀ (j : Nat) (u : Value), (vcs x)[j]? = some u → W.cell? (ad.add (i * 6 + j)) = some u) ∧ In64 x.ts ∧ I64 x.dc ∧ I64 x.tx) n (fun i hi => by
    obtain ⟨ad, cs, z, m, g1, g2, g3, g4, _, _⟩ := hel i hi
    obtain ⟨x, rfl, g5⟩ := trod_ver (d := z.1) (p := z.2) g4
    exact ⟨x, ⟨ad, g1, g2, fun j u hu => g3 j u hu⟩, g5⟩)
  refine ⟨A, c, r, by rw [hr], by omega, by rw [show Try.prog.bytesOf 49 = 64 by kernel_rfl] at h2; omega, fun hn => ?_, fun v hv => ?_⟩
  · rw [vrow_len] at hn
    obtain ⟨⟨ad, e, hb, _⟩, _⟩ := hR 0 (r[0]'(by omega)) (List.getElem?_eq_getElem _)
    refine ⟨ad, e, hb, fun j u hu => ?_⟩
    have hj := (List.getElem?_eq_some_iff.1 hu).1
    rw [vrow_len] at hj
    obtain ⟨⟨ad2, e2, _, hc⟩, _⟩ := hR (j / 6) (r[j / 6]'(by omega)) (List.getElem?_eq_getElem _)
    rw [e] at e2
    injection e2 with e2
    subst e2
    rw [show j = j / 6 * 6 + j % 6 by omega]
    refine hc _ u ?_
    rw [← vrow_at (List.getElem?_eq_getElem (by omega)) (by omega), show j / 6 * 6 + j % 6 = j by omega]
    exact hu
  · obtain ⟨i, hi⟩ := List.mem_iff_getElem?.1 hv
    exact (hR i v hi).2
theorem cell_vec {fuel : Nat} {v : Value} {y : DataW H × List MemPlace} (h : DataW.trod enc Try.prog W 0 (fun _ => true) true fuel 24 [v] = some y) (hlt : ∀ x ∈ y.2, x.block < W.heap.size) (h3 : ∀ n ∈ y.1.weights Try.prog 24, n ≤ reachBytes) :
    ∃ (A : Option Addr) (c : Nat) (l : List Int), v = .slice A l.length c ∧ l.length ≤ c ∧ c ≤ 140737488351232 ∧ RdV W W.heap.size A (l.map (Value.int .u64)) ∧ ∀ x ∈ l, In64 x := by
  obtain ⟨A, n, c, rfl, h1, h2, _, hel⟩ := open_slice (s := 1) Try.underlying24 (by kernel_rfl) (by omega) h hlt h3
  obtain ⟨r, hr, hR⟩ := choose_list (R := fun i (x : Int) => (∃ ad : Addr, A = some ad ∧ ad.block < W.heap.size ∧ W.cell? (ad.add i) = some (.int .u64 x)) ∧ In64 x) n (fun i hi => by
    obtain ⟨ad, cs, z, m, g1, g2, g3, g4, _, _⟩ := hel i hi
    obtain ⟨q, hb, _, w⟩ := DataW.trod_int Try.underlying22 g4
    subst hb
    obtain ⟨t, ht, t0, t1⟩ := cell_u64 Try.underlying22 g4
    injection ht with _ ht
    subst ht
    exact ⟨q, ⟨ad, g1, g2, by have := g3 0 _ rfl; simpa using this⟩, t0, by show q < 18446744073709551616; omega⟩)
  refine ⟨A, c, r, by rw [hr], by omega, by rw [show Try.prog.bytesOf 22 = 8 by kernel_rfl] at h2; omega, fun hn => ?_, fun v hv => ?_⟩
  · rw [List.length_map] at hn
    obtain ⟨⟨ad, e, hb, _⟩, _⟩ := hR 0 (r[0]'(by omega)) (List.getElem?_eq_getElem _)
    refine ⟨ad, e, hb, fun j u hu => ?_⟩
    rw [List.getElem?_map, Option.map_eq_some_iff] at hu
    obtain ⟨x, hx, rfl⟩ := hu
    obtain ⟨⟨ad2, e2, _, hc⟩, _⟩ := hR j x hx
    rw [e] at e2
    injection e2 with e2
    subst e2
    exact hc
  · obtain ⟨i, hi⟩ := List.mem_iff_getElem?.1 hv
    exact (hR i v hi).2
theorem trod_cmd {fuel : Nat} {cs : List Value} {d : DataW H} {p : List MemPlace} (hf : DataW.trod enc Try.prog W 0 (fun _ => true) true fuel 26 cs = some (d, p)) : ∃ c : Cm, cs = [.int .i64 c.kind, .int .i64 c.dc, .int .i64 c.shard, .int .i64 c.node, .int .i64 c.mode, .string c.key] ∧ I64 c.kind ∧ I64 c.dc ∧ I64 c.shard ∧ I64 c.node ∧ I64 c.mode := by
  obtain ⟨xs, n, _, hx, hl, hlen, hs⟩ := DataW.trod_struct Try.underlying26 hf
  have hl : cs.length = 6 := hl.trans (by kernel_rfl)
  match cs, hl, xs, hlen with
  | [c0, c1, c2, c3, c4, c5], _, [y0, y1, y2, y3, y4, y5], _ =>
    have e0 : DataW.trod enc Try.prog W 0 (fun _ => true) true n 3 [c0] = some y0 := hs 0 _ rfl
    have e1 : DataW.trod enc Try.prog W 0 (fun _ => true) true n 3 [c1] = some y1 := hs 1 _ rfl
    have e2 : DataW.trod enc Try.prog W 0 (fun _ => true) true n 3 [c2] = some y2 := hs 2 _ rfl
    have e3 : DataW.trod enc Try.prog W 0 (fun _ => true) true n 3 [c3] = some y3 := hs 3 _ rfl
    have e4 : DataW.trod enc Try.prog W 0 (fun _ => true) true n 3 [c4] = some y4 := hs 4 _ rfl
    have e5 : DataW.trod enc Try.prog W 0 (fun _ => true) true n 9 [c5] = some y5 := hs 5 _ rfl
    obtain ⟨a0, rfl, h0⟩ := cell_i64 Try.underlying3 e0
    obtain ⟨a1, rfl, h1⟩ := cell_i64 Try.underlying3 e1
    obtain ⟨a2, rfl, h2⟩ := cell_i64 Try.underlying3 e2
    obtain ⟨a3, rfl, h3⟩ := cell_i64 Try.underlying3 e3
    obtain ⟨a4, rfl, h4⟩ := cell_i64 Try.underlying3 e4
    obtain ⟨a5, h5, _⟩ := DataW.trod_string Try.underlying9 e5
    simp at h5
    subst h5
    exact ⟨⟨a0, a1, a2, a3, a4, _⟩, rfl, h0, h1, h2, h3, h4⟩
theorem trod_msg {fuel : Nat} {cs : List Value} {d : DataW H} {p : List MemPlace} (hf : DataW.trod enc Try.prog W 0 (fun _ => true) true fuel 28 cs = some (d, p))
    (hlt : ∀ x ∈ p, x.block < W.heap.size) (h3 : ∀ n ∈ d.weights Try.prog 28, n ≤ reachBytes) : ∃ q : Mq, cs = q.cells ∧ q.Ok W W.heap.size := by
  obtain ⟨xs, n, _, hx, hl, hlen, hs⟩ := DataW.trod_struct Try.underlying28 hf
  have hl : cs.length = 14 := hl.trans (by kernel_rfl)
  match cs, hl, xs, hlen with
  | [c0, c1, c2, c3, c4, c5, c6, c7, c8, c9, c10, c11, c12, c13], _, [y0, y1, y2, y3, y4, y5, y6, y7, y8], _ =>
    simp only [Prod.mk.injEq] at hx
    obtain ⟨rfl, rfl⟩ := hx
    have e0 : DataW.trod enc Try.prog W 0 (fun _ => true) true n 3 [c0] = some y0 := hs 0 _ rfl
    have e1 : DataW.trod enc Try.prog W 0 (fun _ => true) true n 22 [c1] = some y1 := hs 1 _ rfl
    have e2 : DataW.trod enc Try.prog W 0 (fun _ => true) true n 22 [c2] = some y2 := hs 2 _ rfl
    have e3 : DataW.trod enc Try.prog W 0 (fun _ => true) true n 22 [c3] = some y3 := hs 3 _ rfl
    have e4 : DataW.trod enc Try.prog W 0 (fun _ => true) true n 9 [c4] = some y4 := hs 4 _ rfl
    have e5 : DataW.trod enc Try.prog W 0 (fun _ => true) true n 9 [c5] = some y5 := hs 5 _ rfl
    have e6 : DataW.trod enc Try.prog W 0 (fun _ => true) true n 23 [c6] = some y6 := hs 6 _ rfl
    have e7 : DataW.trod enc Try.prog W 0 (fun _ => true) true n 24 [c7] = some y7 := hs 7 _ rfl
    have e8 : DataW.trod enc Try.prog W 0 (fun _ => true) true n 26 [c8, c9, c10, c11, c12, c13] = some y8 := hs 8 _ rfl
    obtain ⟨kd, rfl, g0⟩ := cell_i64 Try.underlying3 e0
    obtain ⟨id, rfl, i0, i1⟩ := cell_u64 Try.underlying22 e1
    obtain ⟨nn, rfl, n0, n1⟩ := cell_u64 Try.underlying22 e2
    obtain ⟨ts, rfl, t0, t1⟩ := cell_u64 Try.underlying22 e3
    obtain ⟨a, ha, _⟩ := DataW.trod_string Try.underlying9 e4
    obtain ⟨b, hb, _⟩ := DataW.trod_string Try.underlying9 e5
    simp at ha hb
    subst ha hb
    obtain ⟨A, c, vs, rfl, v1, v2, v3, v4⟩ := cell_vers e6 (fun x hx => hlt x (by simp [hx])) (fun m hm => h3 m (by
      simp [DataW.weights, Try.underlying28, DataW.weightsEach, hm]))
    obtain ⟨vA, vc, l, rfl, u1, u2, u3, u4⟩ := cell_vec e7 (fun x hx => hlt x (by simp [hx])) (fun m hm => h3 m (by
      simp [DataW.weights, Try.underlying28, DataW.weightsEach, hm]))
    obtain ⟨cm, hcm, k0, k1, k2, k3, k4⟩ := trod_cmd e8
    injection hcm with q0 hcm
    injection hcm with q1 hcm
    injection hcm with q2 hcm
    injection hcm with q3 hcm
    injection hcm with q4 hcm
    injection hcm with q5 _
    subst q0 q1 q2 q3 q4 q5
    exact ⟨⟨⟨kd, id, nn, ts, _, _, vs, l, cm⟩, A, c, vA, vc⟩, rfl, v3, u3, v1, Nat.le_trans v1 v2, u1, Nat.le_trans u1 u2, ⟨⟨i0, by show id < 18446744073709551616; omega⟩, ⟨n0, by show nn < 18446744073709551616; omega⟩, ⟨t0, by show ts < 18446744073709551616; omega⟩, fun v hv => (v4 v hv).1, u4⟩, ⟨g0, fun v hv => (v4 v hv).2, k0, k1, k2, k3, k4⟩⟩
theorem Came.msg {x : Value} (h : Came enc Try.prog W k 28 x) : ∃ q : Mq, x = .agg q.cells.toArray ∧ q.Ok W W.heap.size := by
  obtain ⟨d, p, base, h1, hok, h3, _⟩ := h
  have lt0 : ∀ x ∈ p, x.block < W.heap.size := by obtain ⟨m, hm⟩ := h1; exact DataW.trod_lt m _ _ _ hm
  obtain ⟨fuel, hf⟩ := h1
  obtain ⟨cs, rfl, hs⟩ := okWide_struct Try.underlying28 hok
  obtain ⟨o, e0, r⟩ := trod_msg hf lt0 h3
  refine ⟨o, ?_, r⟩
  have e0 : cs.toList = o.cells := e0
  rw [← e0]
end
end Go.Proofs.Ytkgacehnpdijaaa
