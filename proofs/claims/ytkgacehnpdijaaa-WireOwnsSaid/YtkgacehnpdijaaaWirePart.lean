/- Parts that are made in a region that draws its order; a body under way. -/
import Derived.Test.YtkgacehnpdijaaaWireText
import Derived.Deep.RegionHeld3
import Derived.Deep.CutBlock
import Derived.Test.YtkgacehnpdijaaaWireGood
namespace Go.Proofs.Ytkgacehnpdijaaa
set_option linter.unusedVariables false
open Go.RowKit Wire

/-- the part reads in v, and lies in a block from lo on, below hi -/
def PtR (lo hi : Nat) (p : Pt) (v : World) : Prop := p.l.length = p.n ∧ (0 < p.l.length → ∃ ad, p.A = some ad ∧ lo ≤ ad.block ∧ ad.block < hi ∧ hi ≤ v.heap.size ∧ ∀ j b, p.l[j]? = some b → v.cell? (ad.add j) = some (Bv b))
theorem PtR.go {lo hi : Nat} {p : Pt} {v v' : World} (h : PtR lo hi p v) (hb : Below v.heap.size v v') : PtR lo hi p v' := ⟨h.1, fun hn => by
  obtain ⟨ad, e, h1, h2, h3, h4⟩ := h.2 hn
  exact ⟨ad, e, h1, h2, Nat.le_trans h3 hb.size, fun j b hj => (hb.cell (by rw [block_of_add]; omega)).trans (h4 j b hj)⟩⟩
theorem below_made (v : World) (o : Obj) : Below v.heap.size v (v.alloc o) := (Below.refl _ _).alloc (Nat.le_refl _) _
theorem PtR.goA {lo hi : Nat} {p : Pt} {v v' : World} {o : Obj} (h : PtR lo hi p v) (hb : Below (v.alloc o).heap.size (v.alloc o) v') : PtR lo hi p v' := (h.go (below_made v o)).go hb
theorem PtR.lo' {lo lo' hi : Nat} {p : Pt} {v : World} (h : PtR lo hi p v) (hl : lo' ≤ lo) : PtR lo' hi p v := ⟨h.1, fun hn => by
  obtain ⟨ad, e, h1, h2⟩ := h.2 hn
  exact ⟨ad, e, Nat.le_trans hl h1, h2⟩⟩
theorem PtR.hi' {lo hi : Nat} {p : Pt} {v : World} (h : PtR lo hi p v) : PtR lo v.heap.size p v := ⟨h.1, fun hn => by
  obtain ⟨ad, e, h1, h2, h3, h4⟩ := h.2 hn
  exact ⟨ad, e, h1, Nat.lt_of_lt_of_le h2 h3, Nat.le_refl _, h4⟩⟩
theorem ptr_own {w w' : World} {l : List UInt8} {A : Option Addr} {n c : Nat} (hn : l.length = n) (ho : w'.ownsRow w.heap.size 5 1 (.slice A n c) n (l.map Bv)) : PtR w.heap.size w'.heap.size ⟨l, A, n, c⟩ w' := ⟨hn, fun h0 => by
  obtain ⟨g, cap, hv, h1, h2⟩ := ho.form (by show 0 < n; rw [← hn]; exact h0)
  have hA : A = some ⟨g, 0, none⟩ := by injection hv
  subst hA
  exact ⟨_, rfl, h1, h2, Nat.le_refl _, fun j b hj => (ho.cells (g := g) rfl) j _ (by rw [List.getElem?_map, hj]; rfl)⟩⟩
theorem ptr_new (u : World) {x : Value} {b : UInt8} (hx : Bv b = x) (ty : TypeId) : PtR u.heap.size (u.heap.size + 1) ⟨[b], some ⟨u.heap.size, 0, none⟩, 1, 1⟩ (u.alloc (.cells #[x] ty)) := by
  subst hx
  refine ⟨rfl, fun _ => ⟨_, rfl, Nat.le_refl _, by show u.heap.size < _; omega, by simp, fun j y hj => ?_⟩⟩
  rw [add_zero_off, cell_new]
  cases j with
  | zero => simp at hj; subst hj; rfl
  | succ j => simp at hj
theorem ptr_newA {u u' : World} {x : Value} {b : UInt8} (hx : Bv b = x) {ty : TypeId} (hb : Below (u.alloc (.cells #[x] ty)).heap.size (u.alloc (.cells #[x] ty)) u') : PtR u.heap.size (u.heap.size + 1) ⟨[b], some ⟨u.heap.size, 0, none⟩, 1, 1⟩ u' := (ptr_new u hx ty).go hb
theorem PtR.at_ {lo hi : Nat} {p : Pt} {v : World} {row : Option Nat} (h : PtR lo hi p v) (hr : ∀ k, row = some k → k < lo ∨ hi ≤ k) : p.At v row := ⟨h.1, fun hn => by
  obtain ⟨ad, e, h1, h2, h3, h4⟩ := h.2 hn
  refine ⟨ad, e, by omega, fun he => ?_, h4⟩
  have := hr _ he.symm
  omega⟩
/-- what is known of a message's block in u, and of the bytes under way -/
structure Bld (w u : World) (g : Nat) (cs : Array Value) (l : List UInt8) (b : Value) : Prop where
  row : ∃ A n c, b = .slice A n c ∧ l.length = n ∧ u.ownsRow (g + 1) 5 1 (.slice A n c) n (l.map Bv)
  mem : Mem w u [(g, 28, cs)]
theorem putBld {w u u' : World} {g : Nat} {cs : Array Value} {l : List UInt8} {A : Option Addr} {n c : Nat} {e : Ending} (hg : w.heap.size ≤ g) (hm : Mem w u [(g, 28, cs)]) {xs : List Value} (ho : u.ownsRow (g + 1) 5 1 (.slice A n c) n xs) (h : PutRes u (g + 1) (Value.slice A n c).ownBlock l e u') : ∃ b, e = .returned b ∧ Bld w u' g cs l b := by
  obtain ⟨A2, n2, c2, e2, h1, h2, h3, h4, h5⟩ := h
  refine ⟨_, e2, ⟨A2, n2, c2, rfl, h1, h2⟩, hm.grownBy h3 (fun k hk => ?_) (fun p hp he => ?_)⟩
  · have := (ho.lt k hk).1
    omega
  · rw [List.mem_singleton] at hp
    subst hp
    have := (ho.lt g he.symm).1
    omega
theorem PutRes.blk {u u' : World} {base : Nat} {row : Option Nat} {l : List UInt8} {e : Ending} {h : Nat} {ty : TypeId} {cs : Array Value} (hr : PutRes u base row l e u') (hb : Blk u h ty cs) (hne : ∀ k, row = some k → k < h) : Blk u' h ty cs := by
  obtain ⟨A2, n2, c2, e2, h1, h2, h3, h4, h5⟩ := hr
  exact hb.grown h3 fun he => by have := hne h he.symm; omega
theorem bitv_any (b : Bool) (w : World) : Calls Try.prog 48 #[.bool b] w fun e w' => e = .returned (.int .u64 (if b then 1 else 0)) ∧ w = w' := by
  cases b
  all_goals
    go_enter Try.func48, Try.ntmps48
    go_wp2_with fail
    go_ret
    exact ⟨rfl, rfl⟩
/-- a message's seven first cells -/
abbrev MS (m : Ms) (A : Option Addr) (c : Nat) (vA : Option Addr) (vc g : Nat) (u : World) : Prop :=
  u.cell? ⟨g, 0, none⟩ = some (.int .i64 m.kind) ∧ u.cell? ⟨g, 1, none⟩ = some (.int .u64 m.id) ∧ u.cell? ⟨g, 2, none⟩ = some (.int .u64 m.n) ∧ u.cell? ⟨g, 3, none⟩ = some (.int .u64 m.ts) ∧ u.cell? ⟨g, 4, none⟩ = some (.string m.lo) ∧ u.cell? ⟨g, 5, none⟩ = some (.string m.hi) ∧ u.cell? ⟨g, 6, none⟩ = some (.slice A m.vers.length c)
theorem mS {m : Ms} {A : Option Addr} {c : Nat} {vA : Option Addr} {vc : Nat} {w : World} {g : Nat} {ty : TypeId} (h : Blk w g ty (mcells m A c vA vc)) : MS m A c vA vc g w :=
  ⟨h.cell 0, h.cell 1, h.cell 2, h.cell 3, h.cell 4, h.cell 5, h.cell 6⟩
theorem wrap8 {n : Int} (h0 : 0 ≤ n) (h1 : n ≤ 255) : IntKind.u8.wrap n = n := by simp [IntKind.wrap, IntKind.signed, IntKind.bits]; omega
theorem wrap64 {n : Int} (h0 : 0 ≤ n) (h1 : n < 18446744073709551616) : IntKind.u64.wrap n = n := by simp [IntKind.wrap, IntKind.signed, IntKind.bits]; omega
theorem bv_of {n : Int} (h0 : 0 ≤ n) (h1 : n ≤ 255) : Bv (UInt8.ofNat n.toNat) = .int .u8 n := by
  unfold Bv
  rw [Num.toNat_ofNat_small (by omega), Int.toNat_of_nonneg h0]
theorem gT {a u v : World} (h : Below a.heap.size a u) (hb : Below u.heap.size u v) : Below a.heap.size a v := h.trans (hb.mono h.size)
theorem gTA {a u v : World} {o : Obj} (h : Below a.heap.size a u) (hb : Below (u.alloc o).heap.size (u.alloc o) v) : Below a.heap.size a v := gT (gT h (below_made u o)) hb
theorem gTAD {a u v : World} {o : Obj} (h : Below a.heap.size a u.drew) (hb : Below (u.alloc o).drew.heap.size (u.alloc o).drew v) : Below a.heap.size a v := gTA (u := u.drew) (o := o) h hb
theorem ptr_newAD {u u' : World} {x : Value} {b : UInt8} (hx : Bv b = x) {ty : TypeId} (hb : Below (u.alloc (.cells #[x] ty)).drew.heap.size (u.alloc (.cells #[x] ty)).drew u') : PtR u.heap.size (u.heap.size + 1) ⟨[b], some ⟨u.heap.size, 0, none⟩, 1, 1⟩ u' := ptr_newA (u := u.drew) hx hb
theorem allC {P : Pt → Prop} {a : Pt} {l : List Pt} (h : P a) (t : ∀ p ∈ l, P p) : ∀ p ∈ a :: l, P p := List.forall_mem_cons.2 ⟨h, t⟩
theorem all0 {P : Pt → Prop} : ∀ p ∈ ([] : List Pt), P p := fun p hp => by simp at hp
/-- put behind the row of parts that was just made; its place told apart -/
theorem put_newg (xs : List UInt8) (A : Option Addr) (nx c : Nat) (L : List Pt) (base : Nat) (w : World) (g : Nat) (hgw : w.heap.size = g) (hnx : xs.length = nx) (ho : w.ownsRow base 5 1 (.slice A nx c) nx (xs.map Bv)) (hr : ∀ p ∈ L, p.At w (Value.slice A nx c).ownBlock) (hb : base ≤ w.heap.size) (hx : nx + (cat L).length ≤ 140737488351232) (hn : L.length ≤ 1000) :
    Calls Try.prog 45 #[.slice A nx c, .slice (some ⟨g, 0, none⟩) L.length L.length] (w.alloc (.cells (L.map Pt.v).toArray 31)) (PutRes w base (Value.slice A nx c).ownBlock (xs ++ cat L)) := by
  subst hgw
  exact put_new xs A nx c L base w hnx ho hr hb hx hn
theorem rput_newg (xs : List UInt8) (A : Option Addr) (nx c : Nat) (L : List Pt) (base : Nat) (w : World) (g : Nat) (hgw : w.heap.size = g) (hnx : xs.length = nx) (ho : w.ownsRow base 5 1 (.slice A nx c) nx (xs.map Bv)) (hr : ∀ p ∈ L, p.At w (Value.slice A nx c).ownBlock) (hb : base ≤ w.heap.size) (hx : nx + (cat L).length ≤ 140737488351232) (hn : L.length ≤ 1000) :
    Calls Try.prog 51 #[.slice A nx c, .slice (some ⟨g, 0, none⟩) L.length L.length] (w.alloc (.cells (L.map Pt.v).toArray 31)) (PutRes w base (Value.slice A nx c).ownBlock (xs ++ cat L)) := by
  subst hgw
  exact rput_new xs A nx c L base w hnx ho hr hb hx hn
/-- the elder body's first seven parts; a version -/
def eldHead (m : Ms) : List UInt8 := [UInt8.ofNat m.kind.toNat] ++ (Num.fx 8 m.id.toNat ++ (Num.fx 8 m.n.toNat ++ (Num.fx 8 m.ts.toNat ++ (tx1 m.lo ++ (tx1 m.hi ++ Num.fx 2 m.vers.length)))))
def verE (v : Vr) : List UInt8 := tx1 v.key ++ (tx1 v.val ++ (Num.fx 1 (if v.gone then 1 else 0) ++ (Num.fx 8 v.ts.toNat ++ (Num.fx 1 v.dc.toNat ++ Num.fx 4 v.tx.toNat))))
theorem tx1_len {s : ByteArray} (h : s.size ≤ 64) : (tx1 s).length ≤ 65 := by unfold tx1; rw [List.length_append, Num.fx_length, size_list']; omega
theorem eldHead_len {m : Ms} (h1 : m.lo.size ≤ 16) (h2 : m.hi.size ≤ 16) : (eldHead m).length ≤ 200 := by
  have a := tx1_len (s := m.lo) (by omega)
  have b := tx1_len (s := m.hi) (by omega)
  unfold eldHead
  simp only [List.length_append, Num.fx_length, List.length_singleton]
  omega
theorem verE_len {v : Vr} (g : GoodV v) : (verE v).length ≤ 200 := by
  have h1 := g.key
  have h2 := g.val
  rw [size_list'] at h1 h2
  have a := tx1_len (s := v.key) (by omega)
  have b := tx1_len (s := v.val) (by omega)
  unfold verE
  simp only [List.length_append, Num.fx_length]
  omega
theorem flat_le {α : Type} (f : α → List UInt8) (b : Nat) : ∀ (l : List α), (∀ x ∈ l, (f x).length ≤ b) → (l.flatMap f).length ≤ l.length * b
  | [], _ => by simp
  | x :: r, h => by
    have h1 := h x (by simp)
    have h2 := flat_le f b r fun y hy => h y (by simp [hy])
    rw [List.flatMap_cons, List.length_append, List.length_cons, Nat.succ_mul]
    omega
theorem flat_succ {α : Type} (f : α → List UInt8) {l : List α} {k : Nat} {x : α} (h : l[k]? = some x) : (l.take (k + 1)).flatMap f = (l.take k).flatMap f ++ f x := by
  rw [List.take_add_one, h, List.flatMap_append]
  simp
theorem Bld.parts {w u : World} {g : Nat} {cs : Array Value} {l : List UInt8} {b : Value} (h : Bld w u g cs l b) : ∃ A n c, b = .slice A n c ∧ l.length = n ∧ u.ownsRow (g + 1) 5 1 (.slice A n c) n (l.map Bv) := h.row
theorem Bld.go {w u u' : World} {g : Nat} {cs : Array Value} {l : List UInt8} {b : Value} (h : Bld w u g cs l b) (hb : Below u.heap.size u u') : Bld w u' g cs l b := by
  obtain ⟨A, n, c, rfl, h1, h2⟩ := h.row
  exact ⟨⟨A, n, c, rfl, h1, own_below h2 hb fun k hk => (h2.lt k hk).2⟩, h.mem.called hb⟩
theorem Bld.fresh {w u : World} {g : Nat} {cs : Array Value} {l : List UInt8} {b : Value} (h : Bld w u g cs l b) (hg : w.heap.size = g) : NewB w l (.returned b) u := by
  obtain ⟨A, n, c, rfl, h1, h2⟩ := h.row
  obtain ⟨A', c', e, h3, _⟩ := own_form h2
  injection e with _ _ e3
  subst e3
  exact ⟨A, n, c, rfl, h1, own_more h2 fun k hk => by have := (h2.lt k hk).1; omega, h.mem.below, h3⟩
theorem Bld.lt {w u : World} {g : Nat} {cs : Array Value} {l : List UInt8} {A : Option Addr} {n c : Nat} (h : Bld w u g cs l (.slice A n c)) : ∀ k, (Value.slice A n c).ownBlock = some k → k < u.heap.size := by
  obtain ⟨A, n, c, e, h1, h2⟩ := h.row
  injection e with e1 e2 e3
  subst e1 e2 e3
  exact fun k hk => (h2.lt k hk).2
theorem Bld.own {w u : World} {g : Nat} {cs : Array Value} {l : List UInt8} {A : Option Addr} {n c : Nat} (h : Bld w u g cs l (.slice A n c)) : l.length = n ∧ u.ownsRow (g + 1) 5 1 (.slice A n c) n (l.map Bv) := by
  obtain ⟨A, n, c, e, h1, h2⟩ := h.row
  injection e with e1 e2 e3
  subst e1 e2 e3
  exact ⟨h1, h2⟩
/-- one part more, that was made behind the bytes under way -/
theorem put1_bld {w u u1 : World} {g : Nat} {cs : Array Value} {l l1 : List UInt8} {A A1 : Option Addr} {n c n1 c1 : Nat} (hg : w.heap.size ≤ g) (h : Bld w u g cs l (.slice A n c)) (hn1 : l1.length = n1) (ho1 : u1.ownsRow u.heap.size 5 1 (.slice A1 n1 c1) n1 (l1.map Bv)) (hb : Below u.heap.size u u1) (hl : l.length + l1.length ≤ 140737488351232) :
    Calls Try.prog 45 #[.slice A n c, .slice (some ⟨u1.heap.size, 0, none⟩) 1 1] (u1.alloc (.cells #[.slice A1 n1 c1] 31)) fun e w' => ∃ b, e = .returned b ∧ Bld w w' g cs (l ++ l1) b := by
  obtain ⟨hn, ho⟩ := (h.go hb).own
  have hgl := (h.go hb).mem.blk0.lt
  refine (put_new l A n c [⟨l1, A1, n1, c1⟩] (g + 1) u1 hn ho (allC ((ptr_own hn1 ho1).at_ fun k hk => .inl (h.lt k hk)) all0) hgl (by simp [cat]; omega) (by simp)).mono fun e w' hr => ?_
  have hr2 : PutRes u1 (g + 1) (Value.slice A n c).ownBlock (l ++ l1) e w' := by simpa [cat] using hr
  exact putBld hg (h.go hb).mem ho hr2
theorem rput1_bld {w u u1 : World} {g : Nat} {cs : Array Value} {l l1 : List UInt8} {A A1 : Option Addr} {n c n1 c1 : Nat} (hg : w.heap.size ≤ g) (h : Bld w u g cs l (.slice A n c)) (hn1 : l1.length = n1) (ho1 : u1.ownsRow u.heap.size 5 1 (.slice A1 n1 c1) n1 (l1.map Bv)) (hb : Below u.heap.size u u1) (hl : l.length + l1.length ≤ 140737488351232) :
    Calls Try.prog 51 #[.slice A n c, .slice (some ⟨u1.heap.size, 0, none⟩) 1 1] (u1.alloc (.cells #[.slice A1 n1 c1] 31)) fun e w' => ∃ b, e = .returned b ∧ Bld w w' g cs (l ++ l1) b := by
  obtain ⟨hn, ho⟩ := (h.go hb).own
  have hgl := (h.go hb).mem.blk0.lt
  refine (rput_new l A n c [⟨l1, A1, n1, c1⟩] (g + 1) u1 hn ho (allC ((ptr_own hn1 ho1).at_ fun k hk => .inl (h.lt k hk)) all0) hgl (by simp [cat]; omega) (by simp)).mono fun e w' hr => ?_
  have hr2 : PutRes u1 (g + 1) (Value.slice A n c).ownBlock (l ++ l1) e w' := by simpa [cat] using hr
  exact putBld hg (h.go hb).mem ho hr2
theorem szA (u : World) (o : Obj) : (u.alloc o).heap.size = u.heap.size + 1 := by simp
theorem szD (u : World) : u.drew.heap.size = u.heap.size := rfl
/-- a block that put doesn't write -/
def Keeps (u u' : World) (row : Option Nat) (b : Value) : Prop := ∀ h ty cs, Blk u h ty cs → row ≠ some h → Blk u' h ty cs ∧ ∀ A n c, b = .slice A n c → (Value.slice A n c).ownBlock ≠ some h
theorem rput1_keeps {w u u1 : World} {g : Nat} {cs : Array Value} {l l1 : List UInt8} {A A1 : Option Addr} {n c n1 c1 : Nat} (hg : w.heap.size ≤ g) (h : Bld w u g cs l (.slice A n c)) (hn1 : l1.length = n1) (ho1 : u1.ownsRow u.heap.size 5 1 (.slice A1 n1 c1) n1 (l1.map Bv)) (hb : Below u.heap.size u u1) (hl : l.length + l1.length ≤ 140737488351232) :
    Calls Try.prog 51 #[.slice A n c, .slice (some ⟨u1.heap.size, 0, none⟩) 1 1] (u1.alloc (.cells #[.slice A1 n1 c1] 31)) fun e w' => ∃ b, e = .returned b ∧ Bld w w' g cs (l ++ l1) b ∧ Keeps u1 w' (Value.slice A n c).ownBlock b := by
  obtain ⟨hn, ho⟩ := (h.go hb).own
  have hgl := (h.go hb).mem.blk0.lt
  refine (rput_new l A n c [⟨l1, A1, n1, c1⟩] (g + 1) u1 hn ho (allC ((ptr_own hn1 ho1).at_ fun k hk => .inl (h.lt k hk)) all0) hgl (by simp [cat]; omega) (by simp)).mono fun e w' hr => ?_
  have hr2 : PutRes u1 (g + 1) (Value.slice A n c).ownBlock (l ++ l1) e w' := by simpa [cat] using hr
  obtain ⟨b, rfl, hbld⟩ := putBld hg (h.go hb).mem ho hr2
  refine ⟨b, rfl, hbld, fun h2 ty cs2 hk hne => ?_⟩
  obtain ⟨A2, n2, c2, e2, h1, h3, h4, h5, h6⟩ := hr2
  injection e2 with e2
  subst e2
  refine ⟨hk.grown h4 (fun he => hne he.symm), fun A n c he => ?_⟩
  rw [← he]
  rcases h6 with h6 | h6
  · rw [h6]; exact hne
  · intro he2
    have := h6 _ he2
    have := hk.lt
    omega
/-- the numbers' row stands beside -/
def BldN (w u : World) (g gg : Nat) (cs ns : Array Value) (l : List UInt8) (b : Value) : Prop := Bld w u g cs l b ∧ Blk u gg 3 ns ∧ ∀ A n c, b = .slice A n c → ∀ k, (Value.slice A n c).ownBlock = some k → k ≠ gg
theorem rput1_bldN {w u u1 : World} {g gg : Nat} {cs ns : Array Value} {l l1 : List UInt8} {A A1 : Option Addr} {n c n1 c1 : Nat} (hg : w.heap.size ≤ g) (h : BldN w u g gg cs ns l (.slice A n c)) (hn1 : l1.length = n1) (ho1 : u1.ownsRow u.heap.size 5 1 (.slice A1 n1 c1) n1 (l1.map Bv)) (hb : Below u.heap.size u u1) (hl : l.length + l1.length ≤ 140737488351232) :
    Calls Try.prog 51 #[.slice A n c, .slice (some ⟨u1.heap.size, 0, none⟩) 1 1] (u1.alloc (.cells #[.slice A1 n1 c1] 31)) fun e w' => ∃ b, e = .returned b ∧ BldN w w' g gg cs ns (l ++ l1) b := by
  refine (rput1_keeps hg h.1 hn1 ho1 hb hl).mono fun e w' hr => ?_
  obtain ⟨b, rfl, hbld, hk⟩ := hr
  obtain ⟨hk1, hk2⟩ := hk gg _ _ (h.2.1.below hb h.2.1.lt) (fun he => h.2.2 A n c rfl gg he rfl)
  exact ⟨b, rfl, hbld, hk1, fun A n c e k hk3 he => hk2 A n c e (by rw [← he]; exact hk3)⟩
set_option maxHeartbeats 1000000 in
theorem rnums_new (c : Cm) (w : World) : Calls Try.prog 34 #[.agg (cmdCells c)] w fun e w' => ∃ g, e = .returned (.slice (some ⟨g, 0, none⟩) 5 5) ∧ Blk w' g 3 (numCells c) ∧ Below w.heap.size w w' ∧ w.heap.size ≤ g := by
  obtain ⟨k0, k1, k2, k3, k4, k5⟩ := c
  have HM0 := hide (((Mem.start w).new (t := 26) (cs := #[.int .i64 k0, .int .i64 k1, .int .i64 k2, .int .i64 k3, .int .i64 k4, .string k5]) w.heap.size rfl).new (t := 3) (cs := #[.int .i64 k0, .int .i64 k1, .int .i64 k2, .int .i64 k3, .int .i64 k4]) (w.heap.size + 1) (by simp))
  show Calls _ _ #[.agg #[.int .i64 k0, .int .i64 k1, .int .i64 k2, .int .i64 k3, .int .i64 k4, .string k5]] _ _
  go_enter Try.func34, Try.ntmps34
  go_wp2_with fail
  go_ret
  exact ⟨_, rfl, (unhide HM0).blk0, (unhide HM0).below, by omega⟩
theorem kgo {u u' : World} {g kb : Nat} {xs : List Value} (h : u.ownsRow g 5 1 (.slice (some ⟨kb, 0, none⟩) 1 1) 1 xs) (hb : Below u.heap.size u u') : u'.ownsRow g 5 1 (.slice (some ⟨kb, 0, none⟩) 1 1) 1 xs := own_below h hb fun k hk => (h.lt k hk).2
theorem knew {u : World} {g : Nat} {b : UInt8} {x : Value} (hx : Bv b = x) (hge : g < u.heap.size) : (u.alloc (.cells #[x] 5)).ownsRow (g + 1) 5 1 (.slice (some ⟨u.heap.size, 0, none⟩) 1 1) 1 ([b].map Bv) := own_new u (g + 1) #[x] 5 1 _ hge (by simp [maxLen]) rfl (by subst hx; rfl)
theorem knewA {u u' : World} {g : Nat} {b : UInt8} {x : Value} (hx : Bv b = x) (hge : g < u.heap.size) (hb : Below (u.alloc (.cells #[x] 5)).heap.size (u.alloc (.cells #[x] 5)) u') : u'.ownsRow (g + 1) 5 1 (.slice (some ⟨u.heap.size, 0, none⟩) 1 1) 1 ([b].map Bv) := kgo (knew hx hge) hb
theorem knewAD {u u' : World} {g : Nat} {b : UInt8} {x : Value} (hx : Bv b = x) (hge : g < u.drew.heap.size) (hb : Below (u.alloc (.cells #[x] 5)).drew.heap.size (u.alloc (.cells #[x] 5)).drew u') : u'.ownsRow (g + 1) 5 1 (.slice (some ⟨u.heap.size, 0, none⟩) 1 1) 1 ([b].map Bv) := knewA (u := u.drew) hx hge hb
/-- a version's six cells in a block of its own -/
abbrev vc6 (v : Vr) : Array Value := #[.string v.key, .string v.val, .bool v.gone, .int .u64 v.ts, .int .i64 v.dc, .int .i64 v.tx]
abbrev VS (v : Vr) (h : Nat) (u : World) : Prop :=
  u.cell? ⟨h, 0, none⟩ = some (.string v.key) ∧ u.cell? ⟨h, 1, none⟩ = some (.string v.val) ∧ u.cell? ⟨h, 2, none⟩ = some (.bool v.gone) ∧ u.cell? ⟨h, 3, none⟩ = some (.int .u64 v.ts) ∧ u.cell? ⟨h, 4, none⟩ = some (.int .i64 v.dc) ∧ u.cell? ⟨h, 5, none⟩ = some (.int .i64 v.tx)
theorem vS {v : Vr} {w : World} {h : Nat} {ty : TypeId} (hb : Blk w h ty (vc6 v)) : VS v h w := ⟨hb.cell 0, hb.cell 1, hb.cell 2, hb.cell 3, hb.cell 4, hb.cell 5⟩
/-- the elder body behind its first parts -/
def eldV (m : Ms) (k : Nat) : List UInt8 := eldHead m ++ (m.vers.take k).flatMap verE
def eldC1 (m : Ms) : List UInt8 := eldV m m.vers.length ++ Num.fx 1 m.vec.length
def eldW (m : Ms) (k : Nat) : List UInt8 := eldC1 m ++ (m.vec.take k).flatMap fun x => Num.fx 8 x.toNat
def eldN (m : Ms) (k : Nat) : List UInt8 := eldW m m.vec.length ++ (m.cmd.nums.take k).flatMap fun x => Num.fx 1 x.toNat
def eldOf (m : Ms) : List UInt8 := eldN m 5 ++ tx1 m.cmd.key
theorem take_sub {α : Type} (f : α → List UInt8) (l : List α) (k : Nat) : ((l.take k).flatMap f).length ≤ (l.flatMap f).length := by
  have : l.flatMap f = (l.take k).flatMap f ++ (l.drop k).flatMap f := by rw [← List.flatMap_append, List.take_append_drop]
  rw [this, List.length_append]
  omega
theorem eldV_succ {m : Ms} {k : Nat} {v : Vr} (h : m.vers[k]? = some v) : eldV m (k + 1) = eldV m k ++ verE v := by
  unfold eldV
  rw [flat_succ verE h, List.append_assoc]
theorem eldW_succ {m : Ms} {k : Nat} {x : Int} (h : m.vec[k]? = some x) : eldW m (k + 1) = eldW m k ++ Num.fx 8 x.toNat := by
  unfold eldW
  rw [flat_succ (fun x : Int => Num.fx 8 x.toNat) h, List.append_assoc]
theorem eldN_succ {m : Ms} {k : Nat} {x : Int} (h : m.cmd.nums[k]? = some x) : eldN m (k + 1) = eldN m k ++ Num.fx 1 x.toNat := by
  unfold eldN
  rw [flat_succ (fun x : Int => Num.fx 1 x.toNat) h, List.append_assoc]
theorem eldV_len {m : Ms} (hg : Wire.Good m) (k : Nat) : (eldV m k).length ≤ 819400 := by
  have h1 := hg.lo; have h2 := hg.hi
  rw [size_list'] at h1 h2
  have a := eldHead_len h1 h2
  have b := take_sub verE m.vers k
  have c := flat_le verE 200 m.vers fun v hv => verE_len (hg.vers v hv)
  have d := hg.nv
  unfold eldV
  rw [List.length_append]
  omega
theorem eldW_len {m : Ms} (hg : Wire.Good m) (k : Nat) : (eldW m k).length ≤ 820000 := by
  have a := eldV_len hg m.vers.length
  have b := take_sub (fun x : Int => Num.fx 8 x.toNat) m.vec k
  have c := flat_le (fun x : Int => Num.fx 8 x.toNat) 8 m.vec fun v hv => by simp [Num.fx_length]
  have d := hg.nc
  unfold eldW eldC1
  rw [List.length_append, List.length_append, Num.fx_length]
  omega
theorem eldN_len {m : Ms} (hg : Wire.Good m) (k : Nat) : (eldN m k).length ≤ 820010 := by
  have a := eldW_len hg m.vec.length
  have b := take_sub (fun x : Int => Num.fx 1 x.toNat) m.cmd.nums k
  have c := flat_le (fun x : Int => Num.fx 1 x.toNat) 1 m.cmd.nums fun v hv => by simp [Num.fx_length]
  have d : m.cmd.nums.length = 5 := rfl
  unfold eldN
  rw [List.length_append]
  omega
/-- the elder body's first parts put behind the kind (the document's way) -/
theorem rhead_put {w X : World} {g kb gx l1 l2 l3 l4 l5 l6 r1 r2 r3 r4 r5 r6 n1 n2 n3 n4 n5 n6 c1 c2 c3 c4 c5 c6 : Nat} {A1 A2 A3 A4 A5 A6 : Option Addr} {cs : Array Value} {m : Ms} (hg : w.heap.size = g) (hm : Mem w X [(g, 28, cs)]) (ho : X.ownsRow (g + 1) 5 1 (.slice (some ⟨kb, 0, none⟩) 1 1) 1 ([UInt8.ofNat m.kind.toNat].map Bv))
    (h1 : PtR l1 r1 ⟨Num.fx 8 m.id.toNat, A1, n1, c1⟩ X) (d1 : kb < l1 ∨ r1 ≤ kb) (h2 : PtR l2 r2 ⟨Num.fx 8 m.n.toNat, A2, n2, c2⟩ X) (d2 : kb < l2 ∨ r2 ≤ kb) (h3 : PtR l3 r3 ⟨Num.fx 8 m.ts.toNat, A3, n3, c3⟩ X) (d3 : kb < l3 ∨ r3 ≤ kb) (h4 : PtR l4 r4 ⟨tx1 m.lo, A4, n4, c4⟩ X) (d4 : kb < l4 ∨ r4 ≤ kb) (h5 : PtR l5 r5 ⟨tx1 m.hi, A5, n5, c5⟩ X) (d5 : kb < l5 ∨ r5 ≤ kb) (h6 : PtR l6 r6 ⟨Num.fx 2 m.vers.length, A6, n6, c6⟩ X) (d6 : kb < l6 ∨ r6 ≤ kb) (hl : (eldHead m).length ≤ 200) (hx : X.heap.size = gx) :
    Calls Try.prog 51 #[.slice (some ⟨kb, 0, none⟩) 1 1, .slice (some ⟨gx, 0, none⟩) 6 6] (X.alloc (.cells #[.slice A1 n1 c1, .slice A2 n2 c2, .slice A3 n3 c3, .slice A4 n4 c4, .slice A5 n5 c5, .slice A6 n6 c6] 31)) fun e w' => ∃ b, e = .returned b ∧ Bld w w' g cs (eldHead m) b := by
  have e : eldHead m = [UInt8.ofNat m.kind.toNat] ++ cat [⟨Num.fx 8 m.id.toNat, A1, n1, c1⟩, ⟨Num.fx 8 m.n.toNat, A2, n2, c2⟩, ⟨Num.fx 8 m.ts.toNat, A3, n3, c3⟩, ⟨tx1 m.lo, A4, n4, c4⟩, ⟨tx1 m.hi, A5, n5, c5⟩, ⟨Num.fx 2 m.vers.length, A6, n6, c6⟩] := by simp [cat, eldHead]
  have hl2 : (eldHead m).length = 1 + (cat [⟨Num.fx 8 m.id.toNat, A1, n1, c1⟩, ⟨Num.fx 8 m.n.toNat, A2, n2, c2⟩, ⟨Num.fx 8 m.ts.toNat, A3, n3, c3⟩, ⟨tx1 m.lo, A4, n4, c4⟩, ⟨tx1 m.hi, A5, n5, c5⟩, ⟨Num.fx 2 m.vers.length, A6, n6, c6⟩]).length := by rw [e, List.length_append]; rfl
  refine (rput_newg [UInt8.ofNat m.kind.toNat] (some ⟨kb, 0, none⟩) 1 1 [⟨Num.fx 8 m.id.toNat, A1, n1, c1⟩, ⟨Num.fx 8 m.n.toNat, A2, n2, c2⟩, ⟨Num.fx 8 m.ts.toNat, A3, n3, c3⟩, ⟨tx1 m.lo, A4, n4, c4⟩, ⟨tx1 m.hi, A5, n5, c5⟩, ⟨Num.fx 2 m.vers.length, A6, n6, c6⟩] (g + 1) X gx hx rfl ho (allC (h1.at_ fun k hk => by have hk : some kb = some k := hk; injection hk with hk; omega) (allC (h2.at_ fun k hk => by have hk : some kb = some k := hk; injection hk with hk; omega) (allC (h3.at_ fun k hk => by have hk : some kb = some k := hk; injection hk with hk; omega) (allC (h4.at_ fun k hk => by have hk : some kb = some k := hk; injection hk with hk; omega) (allC (h5.at_ fun k hk => by have hk : some kb = some k := hk; injection hk with hk; omega) (allC (h6.at_ fun k hk => by have hk : some kb = some k := hk; injection hk with hk; omega) all0)))))) hm.blk0.lt (by omega) (by simp)).mono fun e1 w' hr => ?_
  rw [← e] at hr
  exact putBld (Nat.le_of_eq hg) hm ho hr
/-- the same, where the kind's row was made last -/
theorem rhead_last {w X : World} {g l1 l2 l3 l4 l5 l6 r1 r2 r3 r4 r5 r6 n1 n2 n3 n4 n5 n6 c1 c2 c3 c4 c5 c6 : Nat} {A1 A2 A3 A4 A5 A6 : Option Addr} {cs : Array Value} {m : Ms} {x : Value} (hg : w.heap.size = g) (hm : Mem w X [(g, 28, cs)]) (hx : Bv (UInt8.ofNat m.kind.toNat) = x)
    (h1 : PtR l1 r1 ⟨Num.fx 8 m.id.toNat, A1, n1, c1⟩ X) (h2 : PtR l2 r2 ⟨Num.fx 8 m.n.toNat, A2, n2, c2⟩ X) (h3 : PtR l3 r3 ⟨Num.fx 8 m.ts.toNat, A3, n3, c3⟩ X) (h4 : PtR l4 r4 ⟨tx1 m.lo, A4, n4, c4⟩ X) (h5 : PtR l5 r5 ⟨tx1 m.hi, A5, n5, c5⟩ X) (h6 : PtR l6 r6 ⟨Num.fx 2 m.vers.length, A6, n6, c6⟩ X) (q1 : r1 ≤ X.heap.size) (q2 : r2 ≤ X.heap.size) (q3 : r3 ≤ X.heap.size) (q4 : r4 ≤ X.heap.size) (q5 : r5 ≤ X.heap.size) (q6 : r6 ≤ X.heap.size) (hl : (eldHead m).length ≤ 200) :
    Calls Try.prog 51 #[.slice (some ⟨X.heap.size + 1, 0, none⟩) 1 1, .slice (some ⟨X.heap.size, 0, none⟩) 6 6] ((X.alloc (.cells #[.slice A1 n1 c1, .slice A2 n2 c2, .slice A3 n3 c3, .slice A4 n4 c4, .slice A5 n5 c5, .slice A6 n6 c6] 31)).alloc (.cells #[x] 5)) fun e w' => ∃ b, e = .returned b ∧ Bld w w' g cs (eldHead m) b := by
  have e : eldHead m = [UInt8.ofNat m.kind.toNat] ++ cat [⟨Num.fx 8 m.id.toNat, A1, n1, c1⟩, ⟨Num.fx 8 m.n.toNat, A2, n2, c2⟩, ⟨Num.fx 8 m.ts.toNat, A3, n3, c3⟩, ⟨tx1 m.lo, A4, n4, c4⟩, ⟨tx1 m.hi, A5, n5, c5⟩, ⟨Num.fx 2 m.vers.length, A6, n6, c6⟩] := by simp [cat, eldHead]
  have hl2 : (eldHead m).length = 1 + (cat [⟨Num.fx 8 m.id.toNat, A1, n1, c1⟩, ⟨Num.fx 8 m.n.toNat, A2, n2, c2⟩, ⟨Num.fx 8 m.ts.toNat, A3, n3, c3⟩, ⟨tx1 m.lo, A4, n4, c4⟩, ⟨tx1 m.hi, A5, n5, c5⟩, ⟨Num.fx 2 m.vers.length, A6, n6, c6⟩]).length := by rw [e, List.length_append]; rfl
  have hgl := hm.blk0.lt
  have ho := knew (u := X.alloc (.cells #[.slice A1 n1 c1, .slice A2 n2 c2, .slice A3 n3 c3, .slice A4 n4 c4, .slice A5 n5 c5, .slice A6 n6 c6] 31)) (g := g) hx (by rw [szA]; omega)
  rw [szA] at ho
  have hm2 := (hm.other (.cells #[.slice A1 n1 c1, .slice A2 n2 c2, .slice A3 n3 c3, .slice A4 n4 c4, .slice A5 n5 c5, .slice A6 n6 c6] 31)).other (.cells #[x] 5)
  have hpb : Blk ((X.alloc (.cells #[.slice A1 n1 c1, .slice A2 n2 c2, .slice A3 n3 c3, .slice A4 n4 c4, .slice A5 n5 c5, .slice A6 n6 c6] 31)).alloc (.cells #[x] 5)) X.heap.size 31 #[.slice A1 n1 c1, .slice A2 n2 c2, .slice A3 n3 c3, .slice A4 n4 c4, .slice A5 n5 c5, .slice A6 n6 c6] := (Blk.new X _ _).alloc _
  refine (rput_any [UInt8.ofNat m.kind.toNat] (some ⟨X.heap.size + 1, 0, none⟩) 1 1 [⟨Num.fx 8 m.id.toNat, A1, n1, c1⟩, ⟨Num.fx 8 m.n.toNat, A2, n2, c2⟩, ⟨Num.fx 8 m.ts.toNat, A3, n3, c3⟩, ⟨tx1 m.lo, A4, n4, c4⟩, ⟨tx1 m.hi, A5, n5, c5⟩, ⟨Num.fx 2 m.vers.length, A6, n6, c6⟩] X.heap.size (g + 1) _ rfl ho (by rw [szA, szA]; omega) (fun he => by have he : some X.heap.size = some (X.heap.size + 1) := he; injection he with he; omega) (fun i p hp => ?_) (allC (((h1.go (below_made X _)).go (below_made _ _)).at_ fun k hk => by have hk : some (X.heap.size + 1) = some k := hk; injection hk with hk; omega) (allC (((h2.go (below_made X _)).go (below_made _ _)).at_ fun k hk => by have hk : some (X.heap.size + 1) = some k := hk; injection hk with hk; omega) (allC (((h3.go (below_made X _)).go (below_made _ _)).at_ fun k hk => by have hk : some (X.heap.size + 1) = some k := hk; injection hk with hk; omega) (allC (((h4.go (below_made X _)).go (below_made _ _)).at_ fun k hk => by have hk : some (X.heap.size + 1) = some k := hk; injection hk with hk; omega) (allC (((h5.go (below_made X _)).go (below_made _ _)).at_ fun k hk => by have hk : some (X.heap.size + 1) = some k := hk; injection hk with hk; omega) (allC (((h6.go (below_made X _)).go (below_made _ _)).at_ fun k hk => by have hk : some (X.heap.size + 1) = some k := hk; injection hk with hk; omega) all0)))))) hm2.blk0.lt (by omega) (by simp)).mono fun e1 w' hr => ?_
  · rw [hpb.cell]
    have : ((#[.slice A1 n1 c1, .slice A2 n2 c2, .slice A3 n3 c3, .slice A4 n4 c4, .slice A5 n5 c5, .slice A6 n6 c6] : Array Value))[i]? = ([⟨Num.fx 8 m.id.toNat, A1, n1, c1⟩, ⟨Num.fx 8 m.n.toNat, A2, n2, c2⟩, ⟨Num.fx 8 m.ts.toNat, A3, n3, c3⟩, ⟨tx1 m.lo, A4, n4, c4⟩, ⟨tx1 m.hi, A5, n5, c5⟩, ⟨Num.fx 2 m.vers.length, A6, n6, c6⟩].map Pt.v)[i]? := by rw [← Array.getElem?_toList]; rfl
    rw [this, List.getElem?_map, hp]
    rfl
  · rw [← e] at hr
    exact putBld (Nat.le_of_eq hg) hm2 ho hr
end Go.Proofs.Ytkgacehnpdijaaa
