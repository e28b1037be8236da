/- Versions and shares in memory, in blocks of a set; those that came in. -/
import Derived.Test.YtcljendidhfobaaMapN
import Derived.Test.YtcljendidhfobaaMemIn
import Derived.Test.YtcljendidhfobaaKnown
import Derived.Test.YtcljendidhfobaaOpenRow
import Derived.Deep.RegionHeld3
namespace Go.Proofs.Ytcljendidhfobaa
open Go.ChangeShapes Go.WideShapes Go.ChangeAt Go.RowKit
set_option linter.unusedVariables false

theorem flat_len {α β : Type} (f : α → List β) (k : Nat) (hf : ∀ x, (f x).length = k) : ∀ l : List α, (l.flatMap f).length = l.length * k
  | [] => by simp
  | x :: r => by rw [List.flatMap_cons, List.length_append, hf, flat_len f k hf r, List.length_cons, Nat.succ_mul]; omega
theorem flat_at {α β : Type} (f : α → List β) (k : Nat) (hf : ∀ x, (f x).length = k) : ∀ (l : List α) (i : Nat) (x : α) (j : Nat), l[i]? = some x → j < k → (l.flatMap f)[i * k + j]? = (f x)[j]?
  | [], i, x, j, h, _ => by simp at h
  | y :: r, 0, x, j, h, hj => by
    simp at h
    subst h
    rw [List.flatMap_cons, Nat.zero_mul, Nat.zero_add, List.getElem?_append_left (by rw [hf]; exact hj)]
  | y :: r, i + 1, x, j, h, hj => by
    have ih := flat_at f k hf r i x j (by simpa using h) hj
    rw [List.flatMap_cons, List.getElem?_append_right (by rw [hf, Nat.succ_mul]; omega), hf, show (i + 1) * k + j - k = i * k + j by rw [Nat.succ_mul]; omega]
    exact ih
/-- a version -/
structure Vr where
  key : ByteArray
  val : ByteArray
  gone : Bool
  ts : Int
  dc : Int
  tx : Int
def Vr.cs (v : Vr) : List Value := [.string v.key, .string v.val, .bool v.gone, .int .u64 v.ts, .int .i64 v.dc, .int .i64 v.tx]
def vrow (l : List Vr) : List Value := l.flatMap Vr.cs
theorem vrow_len (l : List Vr) : (vrow l).length = l.length * 6 := flat_len _ 6 (fun _ => rfl) l
theorem vrow_app (a b : List Vr) : vrow (a ++ b) = vrow a ++ vrow b := by simp [vrow]
theorem vrow_at {l : List Vr} {i : Nat} {x : Vr} (h : l[i]? = some x) {j : Nat} (hj : j < 6) : (vrow l)[i * 6 + j]? = x.cs[j]? := flat_at _ 6 (fun _ => rfl) l i x j h hj
theorem vrow_one {l : List Vr} : ∀ u ∈ vrow l, u.oneCell' = true := by
  intro u hu
  obtain ⟨v, _, hv⟩ := List.mem_flatMap.1 hu
  simp [Vr.cs] at hv
  rcases hv with rfl | rfl | rfl | rfl | rfl | rfl <;> rfl
/-- a share: its node, its versions, where they lie -/
structure Sq where
  node : Int
  vs : List Vr
  A : Option Addr
  c : Nat
def Sq.cs (s : Sq) : List Value := [.int .i64 s.node, .slice s.A s.vs.length s.c]
def srow (l : List Sq) : List Value := l.flatMap Sq.cs
theorem srow_len (l : List Sq) : (srow l).length = l.length * 2 := flat_len _ 2 (fun _ => rfl) l
theorem srow_app (a b : List Sq) : srow (a ++ b) = srow a ++ srow b := by simp [srow]
theorem srow_at {l : List Sq} {i : Nat} {x : Sq} (h : l[i]? = some x) {j : Nat} (hj : j < 2) : (srow l)[i * 2 + j]? = x.cs[j]? := flat_at _ 2 (fun _ => rfl) l i x j h hj
theorem srow_one {l : List Sq} : ∀ u ∈ srow l, u.oneCell' = true := by
  intro u hu
  obtain ⟨v, _, hv⟩ := List.mem_flatMap.1 hu
  simp [Sq.cs] at hv
  rcases hv with rfl | rfl <;> rfl
/-- what a share is, wherever it lies -/
abbrev Sh := Int × List Vr
def Sq.sh (s : Sq) : Sh := (s.node, s.vs)

/-- the cells xs stand from A on, in a block of F -/
def RdS (w : World) (F : Nat → Prop) (A : Option Addr) (xs : List Value) : Prop :=
  0 < xs.length → ∃ ad, A = some ad ∧ F ad.block ∧ ad.block < w.heap.size ∧ ∀ j u, xs[j]? = some u → w.cell? (ad.add j) = some u
section
variable {w w' : World} {F G S : Nat → Prop} {A : Option Addr} {xs : List Value} {B : Nat}
theorem RdS.nil : RdS w F A [] := fun h => absurd h (by simp)
theorem RdS.only (h : RdS w F A xs) (ho : Only S w w') (hs : ∀ k, F k → ¬ S k) : RdS w' F A xs := fun hn => by
  obtain ⟨ad, e, hf, hl, hc⟩ := h hn
  exact ⟨ad, e, hf, Nat.lt_of_lt_of_le hl ho.size, fun j u hu => (ho.cell (a := ad.add j) (by rw [block_of_add]; exact hl) (by rw [block_of_add]; exact hs _ hf)).trans (hc j u hu)⟩
theorem RdS.more (h : RdS w F A xs) (hf : ∀ k, F k → G k) : RdS w G A xs := fun hn => by
  obtain ⟨ad, e, h1, h2, h3⟩ := h hn
  exact ⟨ad, e, hf _ h1, h2, h3⟩
theorem RdS.below (h : RdS w F A xs) (hb : Below B w w') (hs : ∀ k, F k → k < B) : RdS w' F A xs := fun hn => by
  obtain ⟨ad, e, hf, hl, hc⟩ := h hn
  exact ⟨ad, e, hf, Nat.lt_of_lt_of_le hl hb.size, fun j u hu => (hb.cell (p := ad.add j) (by rw [block_of_add]; exact hs _ hf)).trans (hc j u hu)⟩
theorem RdS.new (h : RdS w F A xs) (hb : Below w.heap.size w w') : RdS w' F A xs := fun hn => by
  obtain ⟨ad, e, hf, hl, hc⟩ := h hn
  exact ⟨ad, e, hf, Nat.lt_of_lt_of_le hl hb.size, fun j u hu => (hb.cell (p := ad.add j) (by rw [block_of_add]; exact hl)).trans (hc j u hu)⟩
theorem RdS.drewN (h : RdS w F A xs) (n : Nat) : RdS (w.drewN n) F A xs := h
theorem RdS.v (h : RdS w F A xs) : RdV w w.heap.size A xs := fun hn => by
  obtain ⟨ad, e, _, hl, hc⟩ := h hn
  exact ⟨ad, e, hl, hc⟩
theorem RdS.of_v (h : RdV w B A xs) (hB : B ≤ w.heap.size) : RdS w (fun k => k < B) A xs := fun hn => by
  obtain ⟨ad, e, hl, hc⟩ := h hn
  exact ⟨ad, e, hl, Nat.lt_of_lt_of_le hl hB, hc⟩
theorem RdS.of_own {base e n c size : Nat} (h : w.ownsRow base e size (.slice A n c) n xs) (hF : ∀ k, (Value.slice A n c).ownBlock = some k → F k) : RdS w F A xs := fun hn => by
  obtain ⟨ad, e1, h1, h2⟩ := RdV.of_own h hn
  subst e1
  have hob : (Value.slice (some ad) n c).ownBlock = some ad.block := by
    rcases h.2 with ⟨h3, h4⟩ | ⟨g, cap, cur, hv, _, hg, _⟩
    · cases h3
    · rw [hv]
      injection hv with hv _ _
      injection hv with hv
      subst hv
      rfl
  exact ⟨ad, rfl, hF _ hob, h1, h2⟩
theorem RdS.take (h : RdS w F A xs) (n : Nat) : RdS w F A (xs.take n) := fun hn => by
  obtain ⟨ad, e, h1, h2, h3⟩ := h (by rw [List.length_take] at hn; omega)
  exact ⟨ad, e, h1, h2, fun j u hu => h3 j u (by
    rw [List.getElem?_take] at hu
    split at hu
    · exact hu
    · cases hu)⟩
end
/-- shares that read, in blocks of F -/
structure ShsAt (w : World) (F : Nat → Prop) (A : Option Addr) (l : List Sq) : Prop where
  row : RdS w F A (srow l)
  vers : ∀ s ∈ l, RdS w F s.A (vrow s.vs)
section
variable {w w' : World} {F G S : Nat → Prop} {A : Option Addr} {l : List Sq} {B : Nat}
theorem ShsAt.nil : ShsAt w F A [] := ⟨RdS.nil, fun _ h => absurd h (by simp)⟩
theorem ShsAt.only (h : ShsAt w F A l) (ho : Only S w w') (hs : ∀ k, F k → ¬ S k) : ShsAt w' F A l := ⟨h.row.only ho hs, fun s hm => (h.vers s hm).only ho hs⟩
theorem ShsAt.more (h : ShsAt w F A l) (hf : ∀ k, F k → G k) : ShsAt w G A l := ⟨h.row.more hf, fun s hm => (h.vers s hm).more hf⟩
theorem ShsAt.below (h : ShsAt w F A l) (hb : Below B w w') (hs : ∀ k, F k → k < B) : ShsAt w' F A l := ⟨h.row.below hb hs, fun s hm => (h.vers s hm).below hb hs⟩
theorem ShsAt.new (h : ShsAt w F A l) (hb : Below w.heap.size w w') : ShsAt w' F A l := ⟨h.row.new hb, fun s hm => (h.vers s hm).new hb⟩
theorem ShsAt.drewN (h : ShsAt w F A l) (n : Nat) : ShsAt (w.drewN n) F A l := ⟨h.row, h.vers⟩
/-- one share's two cells -/
theorem ShsAt.at_ (h : ShsAt w F A l) {i : Nat} {s : Sq} (hi : l[i]? = some s) : ∃ ad, A = some ad ∧ F ad.block ∧ ad.block < w.heap.size ∧ w.cell? (ad.add (i * 2)) = some (.int .i64 s.node) ∧ w.cell? (ad.add (i * 2 + 1)) = some (.slice s.A s.vs.length s.c) := by
  have hlt := (List.getElem?_eq_some_iff.1 hi).1
  obtain ⟨ad, e, h1, h2, h3⟩ := h.row (by rw [srow_len]; omega)
  exact ⟨ad, e, h1, h2, h3 (i * 2) _ (by have := srow_at hi (j := 0) (by omega); simpa [Sq.cs] using this), h3 (i * 2 + 1) _ (by have := srow_at hi (j := 1) (by omega); simpa [Sq.cs] using this)⟩
end
/-! ### what came in -/
structure Sq.Cap (s : Sq) : Prop where
  cap : s.vs.length ≤ s.c
  room : s.c ≤ 140737488351232
  lo : -9223372036854775808 ≤ s.node
  hi : s.node ≤ 9223372036854775807
/-- a call of a table -/
structure COp where
  kd : Int
  tx : Int
  t : Int
  node : Int
  A : Option Addr
  c : Nat
  l : List Sq
  lo : ByteArray
  hi : ByteArray
def COp.cells (o : COp) : List Value := [.int .i64 o.kd, .int .u64 o.tx, .int .u64 o.t, .int .i64 o.node, .slice o.A o.l.length o.c, .string o.lo, .string o.hi]
structure InShs (w : World) (B : Nat) (A : Option Addr) (c : Nat) (l : List Sq) : Prop where
  at_ : ShsAt w (fun k => k < B) A l
  cap : l.length ≤ c
  room : c ≤ 140737488351232
  caps : ∀ s ∈ l, s.Cap
theorem InShs.below {w w' : World} {B : Nat} {A : Option Addr} {c : Nat} {l : List Sq} (h : InShs w B A c l) (hb : Below B w w') : InShs w' B A c l := ⟨h.at_.below hb fun _ hk => hk, h.cap, h.room, h.caps⟩
structure COp.Ok (o : COp) (w : World) (B : Nat) : Prop where
  shs : InShs w B o.A o.c o.l
  tx0 : 0 ≤ o.tx
  tx1 : o.tx ≤ 18446744073709551615
  t0 : 0 ≤ o.t
  t1 : o.t ≤ 18446744073709551615
  n0 : -9223372036854775808 ≤ o.node
  n1 : o.node ≤ 9223372036854775807
theorem COp.Ok.below {o : COp} {w w' : World} {B : Nat} (h : o.Ok w B) (hb : Below B w w') : o.Ok w' B := { h with shs := h.shs.below hb }
def InCOps (w : World) (B : Nat) (A : Option Addr) (r : List COp) : Prop :=
  ∀ (i : Nat) (x : COp), r[i]? = some x → (∃ ad : Addr, A = some ad ∧ ad.block < B ∧ ∀ (j : Nat) (v : Value), x.cells[j]? = some v → w.cell? (ad.add (i * 7 + j)) = some v) ∧ x.Ok w B
theorem InCOps.below {w w' : World} {B : Nat} {A : Option Addr} {r : List COp} (h : InCOps w B A r) (hb : Below B w w') : InCOps w' B A r := fun i x hx => by
  obtain ⟨⟨ad, e, hl, hc⟩, ho⟩ := h i x hx
  exact ⟨⟨ad, e, hl, fun j v hj => (hb.cell (p := ad.add _) (by rw [block_of_add]; exact hl)).trans (hc j v hj)⟩, ho.below hb⟩
section
variable {H : Type} {enc : TypeId × Value → H} {W : World} {k : DataW H → Prop}
theorem trod_ver {fuel : Nat} {cs : List Value} {d : DataW H} {p : List MemPlace} (hf : DataW.trod enc Try.prog W 0 (fun _ => true) true fuel 33 cs = some (d, p)) : ∃ v : Vr, cs = v.cs := by
  obtain ⟨xs, n, _, hx, hl, hlen, hs⟩ := DataW.trod_struct Try.underlying33 hf
  have hl : cs.length = 6 := hl.trans (by kernel_rfl)
  match cs, hl, xs, hlen with
  | [c0, c1, c2, c3, c4, c5], _, [y0, y1, y2, y3, y4, y5], _ =>
    have e0 : DataW.trod enc Try.prog W 0 (fun _ => true) true n 9 [c0] = some y0 := hs 0 _ rfl
    have e1 : DataW.trod enc Try.prog W 0 (fun _ => true) true n 9 [c1] = some y1 := hs 1 _ rfl
    have e2 : DataW.trod enc Try.prog W 0 (fun _ => true) true n 4 [c2] = some y2 := hs 2 _ rfl
    have e3 : DataW.trod enc Try.prog W 0 (fun _ => true) true n 31 [c3] = some y3 := hs 3 _ rfl
    have e4 : DataW.trod enc Try.prog W 0 (fun _ => true) true n 3 [c4] = some y4 := hs 4 _ rfl
    have e5 : DataW.trod enc Try.prog W 0 (fun _ => true) true n 3 [c5] = some y5 := hs 5 _ rfl
    obtain ⟨a, ha, _⟩ := DataW.trod_string Try.underlying9 e0
    obtain ⟨b, hb, _⟩ := DataW.trod_string Try.underlying9 e1
    obtain ⟨g, rfl⟩ := cell_bool Try.underlying4 e2
    obtain ⟨t, rfl, _⟩ := cell_u64 Try.underlying31 e3
    obtain ⟨dc, rfl, _⟩ := cell_i64 Try.underlying3 e4
    obtain ⟨x, rfl, _⟩ := cell_i64 Try.underlying3 e5
    simp at ha hb
    subst ha hb
    exact ⟨⟨_, _, g, t, dc, x⟩, rfl⟩
theorem cell_vers {fuel : Nat} {v : Value} {y : DataW H × List MemPlace} (h : DataW.trod enc Try.prog W 0 (fun _ => true) true fuel 26 [v] = some y) (hlt : ∀ x ∈ y.2, x.block < W.heap.size) (h3 : ∀ n ∈ y.1.weights Try.prog 26, n ≤ reachBytes) :
    ∃ (A : Option Addr) (c : Nat) (vs : List Vr), v = .slice A vs.length c ∧ vs.length ≤ c ∧ c ≤ 140737488351232 ∧ RdS W (fun k => k < W.heap.size) A (vrow vs) := by
  obtain ⟨A, n, c, rfl, h1, h2, _, hel⟩ := open_slice (s := 6) Try.underlying26 (by kernel_rfl) (by omega) h hlt h3
  obtain ⟨r, hr, hR⟩ := choose_list (R := fun i (x : Vr) => ∃ ad : Addr, A = some ad ∧ ad.block < W.heap.size ∧ ∀ (j : Nat) (u : Value), x.cs[j]? = some u → W.cell? (ad.add (i * 6 + j)) = some u) n (fun i hi => by
    obtain ⟨ad, cs, z, m, g1, g2, g3, g4, _, _⟩ := hel i hi
    obtain ⟨x, rfl⟩ := trod_ver (d := z.1) (p := z.2) g4
    exact ⟨x, ad, g1, g2, fun j u hu => g3 j u hu⟩)
  refine ⟨A, c, r, by rw [hr], by omega, by rw [show Try.prog.bytesOf 33 = 64 by kernel_rfl] at h2; omega, fun hn => ?_⟩
  rw [vrow_len] at hn
  obtain ⟨ad, e, hb, _⟩ := hR 0 (r[0]'(by omega)) (List.getElem?_eq_getElem _)
  refine ⟨ad, e, hb, hb, fun j u hu => ?_⟩
  have hj := (List.getElem?_eq_some_iff.1 hu).1
  rw [vrow_len] at hj
  obtain ⟨ad2, e2, _, hc⟩ := hR (j / 6) (r[j / 6]'(by omega)) (List.getElem?_eq_getElem _)
  rw [e] at e2
  injection e2 with e2
  subst e2
  rw [show j = j / 6 * 6 + j % 6 by omega]
  refine hc _ u ?_
  rw [← vrow_at (List.getElem?_eq_getElem (by omega)) (by omega), show j / 6 * 6 + j % 6 = j by omega]
  exact hu
theorem trod_share {fuel : Nat} {cs : List Value} {d : DataW H} {p : List MemPlace} (hf : DataW.trod enc Try.prog W 0 (fun _ => true) true fuel 28 cs = some (d, p))
    (hlt : ∀ x ∈ p, x.block < W.heap.size) (h3 : ∀ n ∈ d.weights Try.prog 28, n ≤ reachBytes) : ∃ s : Sq, cs = s.cs ∧ RdS W (fun k => k < W.heap.size) s.A (vrow s.vs) ∧ s.Cap := by
  obtain ⟨xs, n, _, hx, hl, hlen, hs⟩ := DataW.trod_struct Try.underlying28 hf
  have hl : cs.length = 2 := hl.trans (by kernel_rfl)
  match cs, hl, xs, hlen with
  | [c0, c1], _, [y0, y1], _ =>
    simp only [Prod.mk.injEq] at hx
    obtain ⟨rfl, rfl⟩ := hx
    have e0 : DataW.trod enc Try.prog W 0 (fun _ => true) true n 3 [c0] = some y0 := hs 0 _ rfl
    have e1 : DataW.trod enc Try.prog W 0 (fun _ => true) true n 26 [c1] = some y1 := hs 1 _ rfl
    obtain ⟨nd, rfl, h1, h2⟩ := cell_i64 Try.underlying3 e0
    obtain ⟨A, c, vs, rfl, g1, g2, g3⟩ := cell_vers e1 (fun x hx => hlt x (by simp [hx])) (fun m hm => h3 m (by
      simp [DataW.weights, Try.underlying28, DataW.weightsEach, hm]))
    exact ⟨⟨nd, vs, A, c⟩, rfl, g3, g1, g2, h1, h2⟩
theorem cell_shares {fuel : Nat} {v : Value} {y : DataW H × List MemPlace} (h : DataW.trod enc Try.prog W 0 (fun _ => true) true fuel 22 [v] = some y) (hlt : ∀ x ∈ y.2, x.block < W.heap.size) (h3 : ∀ n ∈ y.1.weights Try.prog 22, n ≤ reachBytes) :
    ∃ (A : Option Addr) (c : Nat) (l : List Sq), v = .slice A l.length c ∧ InShs W W.heap.size A c l := by
  obtain ⟨A, n, c, rfl, h1, h2, _, hel⟩ := open_slice (s := 2) Try.underlying22 (by kernel_rfl) (by omega) h hlt h3
  obtain ⟨r, hr, hR⟩ := choose_list (R := fun i (x : Sq) => (∃ ad : Addr, A = some ad ∧ ad.block < W.heap.size ∧ ∀ (j : Nat) (u : Value), x.cs[j]? = some u → W.cell? (ad.add (i * 2 + j)) = some u) ∧ RdS W (fun k => k < W.heap.size) x.A (vrow x.vs) ∧ x.Cap) n (fun i hi => by
    obtain ⟨ad, cs, z, m, g1, g2, g3, g4, g5, g6⟩ := hel i hi
    obtain ⟨x, rfl, g7, g8⟩ := trod_share (d := z.1) (p := z.2) g4 g5 g6
    exact ⟨x, ⟨ad, g1, g2, fun j u hu => g3 j u hu⟩, g7, g8⟩)
  refine ⟨A, c, r, by rw [hr], ⟨fun hn => ?_, fun s hm => ?_⟩, by omega, by rw [show Try.prog.bytesOf 28 = 32 by kernel_rfl] at h2; omega, fun s hm => ?_⟩
  · rw [srow_len] at hn
    obtain ⟨⟨ad, e, hb, _⟩, _⟩ := hR 0 (r[0]'(by omega)) (List.getElem?_eq_getElem _)
    refine ⟨ad, e, hb, hb, fun j u hu => ?_⟩
    have hj := (List.getElem?_eq_some_iff.1 hu).1
    rw [srow_len] at hj
    obtain ⟨⟨ad2, e2, _, hc⟩, _⟩ := hR (j / 2) (r[j / 2]'(by omega)) (List.getElem?_eq_getElem _)
    rw [e] at e2
    injection e2 with e2
    subst e2
    rw [show j = j / 2 * 2 + j % 2 by omega]
    refine hc _ u ?_
    rw [← srow_at (List.getElem?_eq_getElem (by omega)) (by omega), show j / 2 * 2 + j % 2 = j by omega]
    exact hu
  · obtain ⟨i, hi⟩ := List.mem_iff_getElem?.1 hm
    exact (hR i s hi).2.1
  · obtain ⟨i, hi⟩ := List.mem_iff_getElem?.1 hm
    exact (hR i s hi).2.2
theorem Came.shares {x : Value} (h : Came enc Try.prog W k 22 x) : ∃ (A : Option Addr) (c : Nat) (l : List Sq), x = .slice A l.length c ∧ InShs W W.heap.size A c l := by
  obtain ⟨d, p, base, h1, hok, h3, _⟩ := h
  have lt0 : ∀ x ∈ p, x.block < W.heap.size := by obtain ⟨m, hm⟩ := h1; exact DataW.trod_lt m _ _ _ hm
  obtain ⟨fuel, hf⟩ := h1
  obtain ⟨A0, n0, c0, rfl⟩ := okWide_slice Try.underlying22 hok
  exact cell_shares (y := (d, p)) (by simpa [Value.cells] using hf) lt0 h3
theorem trod_cop {fuel : Nat} {cs : List Value} {d : DataW H} {p : List MemPlace} (hf : DataW.trod enc Try.prog W 0 (fun _ => true) true fuel 44 cs = some (d, p))
    (hlt : ∀ x ∈ p, x.block < W.heap.size) (h3 : ∀ n ∈ d.weights Try.prog 44, n ≤ reachBytes) :
    ∃ o : COp, cs = o.cells ∧ o.Ok W W.heap.size := by
  obtain ⟨xs, n, _, hx, hl, hlen, hs⟩ := DataW.trod_struct Try.underlying44 hf
  have hl : cs.length = 7 := hl.trans (by kernel_rfl)
  match cs, hl, xs, hlen with
  | [c0, c1, c2, c3, c4, c5, c6], _, [y0, y1, y2, y3, y4, y5, y6], _ =>
    simp only [Prod.mk.injEq] at hx
    obtain ⟨rfl, rfl⟩ := hx
    have e0 : DataW.trod enc Try.prog W 0 (fun _ => true) true n 3 [c0] = some y0 := hs 0 _ rfl
    have e1 : DataW.trod enc Try.prog W 0 (fun _ => true) true n 31 [c1] = some y1 := hs 1 _ rfl
    have e2 : DataW.trod enc Try.prog W 0 (fun _ => true) true n 31 [c2] = some y2 := hs 2 _ rfl
    have e3 : DataW.trod enc Try.prog W 0 (fun _ => true) true n 3 [c3] = some y3 := hs 3 _ rfl
    have e4 : DataW.trod enc Try.prog W 0 (fun _ => true) true n 22 [c4] = some y4 := hs 4 _ rfl
    have e5 : DataW.trod enc Try.prog W 0 (fun _ => true) true n 9 [c5] = some y5 := hs 5 _ rfl
    have e6 : DataW.trod enc Try.prog W 0 (fun _ => true) true n 9 [c6] = some y6 := hs 6 _ rfl
    obtain ⟨kd, rfl, _⟩ := cell_i64 Try.underlying3 e0
    obtain ⟨tx, rfl, h4, h5⟩ := cell_u64 Try.underlying31 e1
    obtain ⟨t, rfl, h6, h7⟩ := cell_u64 Try.underlying31 e2
    obtain ⟨nd, rfl, h8, h9⟩ := cell_i64 Try.underlying3 e3
    obtain ⟨A, c, l, rfl, g3⟩ := cell_shares e4 (fun x hx => hlt x (by simp [hx])) (fun m hm => h3 m (by
      simp [DataW.weights, Try.underlying44, DataW.weightsEach, hm]))
    obtain ⟨a, ha, _⟩ := DataW.trod_string Try.underlying9 e5
    obtain ⟨b, hb, _⟩ := DataW.trod_string Try.underlying9 e6
    simp at ha hb
    subst ha hb
    exact ⟨⟨kd, tx, t, nd, A, c, l, _, _⟩, rfl, g3, h4, h5, h6, h7, h8, h9⟩
theorem Came.cop {x : Value} (h : Came enc Try.prog W k 44 x) : ∃ o : COp, x = .agg o.cells.toArray ∧ o.Ok W W.heap.size := by
  obtain ⟨d, p, base, h1, hok, h3, _⟩ := h
  have lt0 : ∀ x ∈ p, x.block < W.heap.size := by obtain ⟨m, hm⟩ := h1; exact DataW.trod_lt m _ _ _ hm
  obtain ⟨fuel, hf⟩ := h1
  obtain ⟨cs, rfl, hs⟩ := okWide_struct Try.underlying44 hok
  obtain ⟨o, e0, r⟩ := trod_cop hf lt0 h3
  refine ⟨o, ?_, r⟩
  have e0 : cs.toList = o.cells := e0
  rw [← e0]
theorem Came.cops {x : Value} (h : Came enc Try.prog W k 40 x) :
    ∃ (A : Option Addr) (c : Nat) (r : List COp), x = .slice A r.length c ∧ r.length ≤ c ∧ c ≤ 9223372036854775807 ∧ InCOps W W.heap.size A r := by
  obtain ⟨d, p, base, h1, hok, h3, _⟩ := h
  have lt0 : ∀ x ∈ p, x.block < W.heap.size := by obtain ⟨m, hm⟩ := h1; exact DataW.trod_lt m _ _ _ hm
  obtain ⟨fuel, hf⟩ := h1
  obtain ⟨A0, n0, c0, rfl⟩ := okWide_slice Try.underlying40 hok
  obtain ⟨A, n, c, e0, e1, _, e2, hel⟩ := open_slice (s := 7) (y := (d, p)) Try.underlying40 (by kernel_rfl) (by omega) (by simpa [Value.cells] using hf) lt0 h3
  obtain ⟨r, hr, hR⟩ := choose_list (R := fun i (x : COp) => (∃ ad : Addr, A = some ad ∧ ad.block < W.heap.size ∧ ∀ (j : Nat) (v : Value), x.cells[j]? = some v → W.cell? (ad.add (i * 7 + j)) = some v) ∧ x.Ok W W.heap.size) n (fun i hi => by
    obtain ⟨ad, cs, z, m, g1, g2, g3, g4, g5, g6⟩ := hel i hi
    obtain ⟨o, rfl, q⟩ := trod_cop (d := z.1) (p := z.2) g4 g5 g6
    exact ⟨o, ⟨ad, g1, g2, fun j v hj => g3 j v hj⟩, q⟩)
  exact ⟨A, c, r, by rw [e0, hr], by omega, e2, hR⟩
end
end Go.Proofs.Ytcljendidhfobaa
