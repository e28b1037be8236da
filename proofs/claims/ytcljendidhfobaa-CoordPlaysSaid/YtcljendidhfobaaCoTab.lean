/- Tables of transactions: what they hold, and how they lie in memory. -/
import Derived.Test.YtcljendidhfobaaCoMem
namespace Go.Proofs.Ytcljendidhfobaa
set_option linter.unusedVariables false
open Go.RowKit

/-- a transaction: its key, its time, its shares, its votes in their order, the nodes that ended -/
structure Et where
  tx : Int
  low : Int
  shs : List Sh
  votes : List (Int × Int)
  ended : List Int
def topV (l : List (Int × Int)) : Int := l.foldl (fun a v => if a < v.2 then v.2 else a) 0
def Et.dec (e : Et) : Bool := (e.votes.length : Int) == (e.shs.length : Int)
def Et.has (e : Et) (node : Int) : Bool := e.shs.any fun s => s.1 == node
theorem topV_app (l : List (Int × Int)) (v : Int × Int) : topV (l ++ [v]) = if topV l < v.2 then v.2 else topV l := by
  unfold topV
  rw [List.foldl_append]
  rfl
def getT (T : List Et) (a : Int) : Option Et := T.find? fun e => e.tx == a
theorem getT_tx {T : List Et} {a : Int} {e : Et} (h : getT T a = some e) : e.tx = a := by have := List.find?_some h; simpa using this
theorem getT_mem {T : List Et} {a : Int} {e : Et} (h : getT T a = some e) : e ∈ T := List.mem_of_find?_eq_some h
theorem getT_none {T : List Et} {a : Int} (h : getT T a = none) : ∀ e ∈ T, e.tx ≠ a := fun e he => by have := List.find?_eq_none.1 h e he; simpa using this
/-- the keys are apart -/
def Keys (T : List Et) : Prop := T.Pairwise fun a b => a.tx ≠ b.tx
theorem getT_of_mem : ∀ {T : List Et} (hk : Keys T) {e : Et}, e ∈ T → getT T e.tx = some e
  | [], _, e, h => absurd h (by simp)
  | x :: r, hk, e, h => by
    unfold getT
    rw [List.find?_cons]
    by_cases hx : x.tx = e.tx
    · rw [show (x.tx == e.tx) = true from beq_iff_eq.2 hx]
      rcases List.mem_cons.1 h with rfl | h
      · rfl
      · exact absurd hx (List.rel_of_pairwise_cons hk h)
    · rw [show (x.tx == e.tx) = false from beq_eq_false_iff_ne.2 hx]
      rcases List.mem_cons.1 h with rfl | h
      · exact absurd rfl hx
      · exact getT_of_mem (List.Pairwise.of_cons hk) h
/-- the entry of a transaction is another -/
def putT (T : List Et) (e : Et) : List Et := T.map fun x => if x.tx = e.tx then e else x
theorem putT_len (T : List Et) (e : Et) : (putT T e).length = T.length := by simp [putT]
theorem getT_put (T : List Et) (e : Et) (a : Int) : getT (putT T e) a = if a = e.tx then (getT T a).map fun _ => e else getT T a := by
  unfold getT putT
  induction T with
  | nil => simp
  | cons x r ih =>
    rw [List.map_cons, List.find?_cons, List.find?_cons, ih]
    by_cases hx : x.tx = e.tx
    · rw [if_pos hx]
      by_cases ha : a = e.tx
      · subst ha
        simp [hx]
      · rw [if_neg ha, if_neg ha, show (e.tx == a) = false from beq_eq_false_iff_ne.2 (fun h => ha h.symm), show (x.tx == a) = false from beq_eq_false_iff_ne.2 (fun h => ha (h.symm.trans hx))]
    · rw [if_neg hx]
      by_cases ha : a = e.tx
      · subst ha
        rw [if_pos rfl, if_pos rfl, show (x.tx == e.tx) = false from beq_eq_false_iff_ne.2 hx]
      · rw [if_neg ha, if_neg ha]
theorem keys_put {T : List Et} (h : Keys T) (e : Et) : Keys (putT T e) := by
  unfold Keys putT
  rw [List.pairwise_map]
  refine List.Pairwise.imp (fun {a b} hab => ?_) h
  split <;> split <;> rename_i h1 h2
  · rw [h1, h2] at hab; exact absurd rfl hab
  · rw [h1] at hab; exact hab
  · rw [h2] at hab; exact hab
  · exact hab
theorem mem_put {T : List Et} {e x : Et} (h : x ∈ putT T e) : x = e ∨ (x ∈ T ∧ x.tx ≠ e.tx) := by
  unfold putT at h
  obtain ⟨y, hy, rfl⟩ := List.mem_map.1 h
  split
  · exact .inl rfl
  · rename_i hn; exact .inr ⟨hy, hn⟩
/-- without a transaction -/
def dropT (T : List Et) (a : Int) : List Et := T.filter fun e => e.tx != a
theorem getT_drop (T : List Et) (a b : Int) : getT (dropT T a) b = if b = a then none else getT T b := by
  unfold getT dropT
  induction T with
  | nil => simp
  | cons x r ih =>
    rw [List.filter_cons]
    by_cases hx : x.tx = a
    · rw [if_neg (by simp [hx]), ih]
      by_cases hb : b = a
      · rw [if_pos hb, if_pos hb]
      · rw [if_neg hb, if_neg hb, List.find?_cons, show (x.tx == b) = false from beq_eq_false_iff_ne.2 (fun h => hb (h.symm.trans hx))]
    · rw [if_pos (by simp [hx]), List.find?_cons, ih]
      by_cases hb : b = a
      · subst hb
        rw [show (x.tx == b) = false from beq_eq_false_iff_ne.2 hx, if_pos rfl, if_pos rfl]
      · rw [if_neg hb, if_neg hb, List.find?_cons]
theorem keys_drop {T : List Et} (h : Keys T) (a : Int) : Keys (dropT T a) := List.Pairwise.filter _ h
theorem len_drop : ∀ {T : List Et} (hk : Keys T) {e : Et}, e ∈ T → (dropT T e.tx).length + 1 = T.length
  | [], _, e, h => absurd h (by simp)
  | x :: r, hk, e, h => by
    have hr := List.Pairwise.of_cons hk
    unfold dropT
    rw [List.filter_cons]
    by_cases hx : x.tx = e.tx
    · rw [if_neg (by simp [hx]), List.length_cons, List.filter_eq_self.2]
      intro y hy
      have := List.rel_of_pairwise_cons hk hy
      rw [hx] at this
      simpa using fun h => this h.symm
    · rw [if_pos (by simp [hx]), List.length_cons, List.length_cons]
      rcases List.mem_cons.1 h with rfl | h
      · exact absurd rfl hx
      · have := len_drop hr h
        unfold dropT at this
        omega

/-- where an entry lies -/
structure Ex where
  g : Nat
  A : Option Addr
  c : Nat
  vm : Nat
  em : Nat
  l : List Sq
def entCells (x : Ex) (e : Et) : Array Value := #[.int .u64 e.low, .slice x.A e.shs.length x.c, .map (some x.vm), .map (some x.em), .int .u64 (topV e.votes), .bool e.dec]
structure EntAt (w : World) (F : Nat → Prop) (x : Ex) (e : Et) : Prop where
  blk : Blk w x.g 76 (entCells x e)
  shs : x.l.map Sq.sh = e.shs
  at_ : ShsAt w (fun k => F k ∧ k ≠ x.g ∧ k ≠ x.vm ∧ k ≠ x.em) x.A x.l
  vm : Kq Try.prog 3 .i64 (.int .u64 0) w x.vm e.votes.length (fun a => (e.votes.lookup a).map (Value.int .u64))
  em : Kq Try.prog 3 .i64 (.bool false) w x.em e.ended.length (fun a => if a ∈ e.ended then some (.bool true) else none)
  fg : F x.g
  fv : F x.vm
  fe : F x.em
  ne : x.vm ≠ x.em
/-- where a table lies: its map, whose a block is, its entries -/
structure Tx where
  m : Nat
  own : Nat → Option Int
  X : Int → Ex
def ptrOf (x : Ex) : Value := .pointer (some ⟨x.g, 0, none⟩)
structure TabIn (w : World) (S : Nat → Prop) (p : Nat) (y : Tx) (T : List Et) : Prop where
  blk : Blk w p 72 #[.map (some y.m)]
  map : Kq Try.prog 31 .u64 (.pointer none) w y.m T.length (fun a => (getT T a).map fun _ => ptrOf (y.X a))
  ents : ∀ e ∈ T, EntAt w (fun k => y.own k = some e.tx) (y.X e.tx) e
  own : ∀ k a, y.own k = some a → S k ∧ k ≠ p ∧ k ≠ y.m
  sp : S p
  sm : S y.m
  keys : Keys T
  lt : ∀ k, S k → k < w.heap.size
def TabAt (w : World) (S : Nat → Prop) (p : Nat) (T : List Et) : Prop := ∃ y, TabIn w S p y T
theorem blk_not_map {w : World} {g : Nat} {t : TypeId} {cs : Array Value} {m n : Nat} {P : Program} {k : TypeId} {q : IntKind} {z : Value} {M : Int → Option Value} (h : Blk w g t cs) (hm : Kq P k q z w m n M) : g ≠ m := fun e => by
  obtain ⟨es, c, hb⟩ := hm.blk
  subst e
  unfold Blk at h
  rw [h] at hb
  injection hb with hb
  cases hb
section
variable {w w' : World} {F G S S' : Nat → Prop} {x : Ex} {e : Et} {p : Nat} {y : Tx} {T : List Et}
theorem EntAt.only (h : EntAt w F x e) (ho : Only S w w') (hs : ∀ k, F k → ¬ S k) : EntAt w' F x e :=
  ⟨h.blk.only ho (hs _ h.fg), h.shs, h.at_.only ho fun k hk => hs k hk.1, h.vm.only ho (hs _ h.fv), h.em.only ho (hs _ h.fe), h.fg, h.fv, h.fe, h.ne⟩
theorem EntAt.more (h : EntAt w F x e) (hf : ∀ k, F k → G k) : EntAt w G x e :=
  ⟨h.blk, h.shs, h.at_.more fun k hk => ⟨hf k hk.1, hk.2⟩, h.vm, h.em, hf _ h.fg, hf _ h.fv, hf _ h.fe, h.ne⟩
theorem EntAt.len (h : EntAt w F x e) : x.l.length = e.shs.length := by rw [← h.shs]; simp
theorem TabIn.only (h : TabIn w S p y T) (ho : Only S' w w') (hs : ∀ k, S k → ¬ S' k) : TabIn w' S p y T :=
  ⟨h.blk.only ho (hs _ h.sp), h.map.only ho (hs _ h.sm), fun e he => (h.ents e he).only ho fun k hk => hs k (h.own k _ hk).1, h.own, h.sp, h.sm, h.keys, fun k hk => Nat.lt_of_lt_of_le (h.lt k hk) ho.size⟩
theorem TabAt.only (h : TabAt w S p T) (ho : Only S' w w') (hs : ∀ k, S k → ¬ S' k) : TabAt w' S p T := by
  obtain ⟨y, h⟩ := h
  exact ⟨y, h.only ho hs⟩
theorem TabAt.new (h : TabAt w S p T) (hb : Below w.heap.size w w') : TabAt w' S p T := h.only (S' := fun _ => False) (Only.of_new hb) fun _ _ h => h
theorem TabAt.drewN (h : TabAt w S p T) (n : Nat) : TabAt (w.drewN n) S p T := h.new (below_drewN' (Below.refl _ _) n)
theorem TabAt.keys (h : TabAt w S p T) : Keys T := by obtain ⟨y, h⟩ := h; exact h.keys
theorem TabAt.lt (h : TabAt w S p T) : ∀ k, S k → k < w.heap.size := by obtain ⟨y, h⟩ := h; exact h.lt
theorem TabAt.lts (h : TabAt w S p T) : p < w.heap.size := by obtain ⟨y, h⟩ := h; exact h.lt _ h.sp
theorem TabIn.cell (h : TabIn w S p y T) : w.cell? ⟨p, 0, none⟩ = some (.map (some y.m)) := h.blk.cell 0
theorem TabIn.pm (h : TabIn w S p y T) : p ≠ y.m := blk_not_map h.blk h.map
theorem EntAt.gv (h : EntAt w F x e) : x.g ≠ x.vm := blk_not_map h.blk h.vm
theorem EntAt.ge (h : EntAt w F x e) : x.g ≠ x.em := blk_not_map h.blk h.em
theorem entAt {w : World} {x : Ex} {e : Et} {t : TypeId} (h : Blk w x.g t (entCells x e)) : w.cell? ⟨x.g, 0, none⟩ = some (.int .u64 e.low) ∧ w.cell? ⟨x.g, 1, none⟩ = some (.slice x.A e.shs.length x.c) ∧ w.cell? ⟨x.g, 2, none⟩ = some (.map (some x.vm)) ∧
    w.cell? ⟨x.g, 3, none⟩ = some (.map (some x.em)) ∧ w.cell? ⟨x.g, 4, none⟩ = some (.int .u64 (topV e.votes)) ∧ w.cell? ⟨x.g, 5, none⟩ = some (.bool e.dec) :=
  ⟨h.cell 0, h.cell 1, h.cell 2, h.cell 3, h.cell 4, h.cell 5⟩
/-- one entry is another: what is written lies in its blocks -/
theorem TabIn.put (h : TabIn w S p y T) {e' : Et} (hm : (getT T e'.tx).isSome) (ho : Only (fun k => y.own k = some e'.tx) w w') (hx : EntAt w' (fun k => y.own k = some e'.tx) (y.X e'.tx) e') : TabIn w' S p y (putT T e') := by
  refine ⟨h.blk.only ho (fun hk => (h.own _ _ hk).2.1 rfl), ?_, fun x hx' => ?_, h.own, h.sp, h.sm, keys_put h.keys _, fun k hk => Nat.lt_of_lt_of_le (h.lt k hk) ho.size⟩
  · rw [putT_len]
    refine (h.map.only ho (fun hk => (h.own _ _ hk).2.2 rfl)).ext fun a _ => ?_
    rw [getT_put]
    split
    · cases getT T a <;> rfl
    · rfl
  · rcases mem_put hx' with rfl | ⟨hx', hn⟩
    · exact hx
    · exact (h.ents x hx').only ho fun k hk hk2 => by
        rw [hk] at hk2
        injection hk2 with hk2
        exact hn hk2
/-- an entry goes -/
theorem TabIn.drop (h : TabIn w S p y T) (a : Int) {n : Nat} (hn : (dropT T a).length = n) (ho : Only (fun k => k = y.m) w w')
    (hq : Kq Try.prog 31 .u64 (.pointer none) w' y.m n (upd (fun a => (getT T a).map fun _ => ptrOf (y.X a)) a none)) : TabIn w' S p y (dropT T a) := by
  subst hn
  refine ⟨h.blk.only ho h.pm, hq.ext fun b _ => ?_, fun x hx => (h.ents x (List.mem_filter.1 hx).1).only ho fun k hk => (h.own k _ hk).2.2, h.own, h.sp, h.sm, keys_drop h.keys _, fun k hk => Nat.lt_of_lt_of_le (h.lt k hk) ho.size⟩
  rw [getT_drop]
  unfold upd
  split <;> rfl
theorem getT_app (T : List Et) (e : Et) (a : Int) (h : getT T e.tx = none) : getT (T ++ [e]) a = if a = e.tx then some e else getT T a := by
  unfold getT at h ⊢
  rw [List.find?_append, List.find?_singleton]
  by_cases ha : a = e.tx
  · subst ha
    rw [h]
    simp
  · rw [if_neg ha, show (e.tx == a) = false from beq_eq_false_iff_ne.2 (fun h => ha h.symm)]
    simp
theorem keys_app {T : List Et} (h : Keys T) {e : Et} (hn : getT T e.tx = none) : Keys (T ++ [e]) := by
  refine List.pairwise_append.2 ⟨h, by simp, fun a ha b hb => ?_⟩
  simp at hb
  subst hb
  exact getT_none hn a ha
/-- a new entry, in blocks that are new -/
theorem TabIn.add (h : TabIn w S p y T) {e : Et} {x : Ex} {w1 : World} (hn : getT T e.tx = none) (hb : Below w.heap.size w w1) (hx : EntAt w1 (fun k => w.heap.size ≤ k ∧ k < w1.heap.size) x e) (ho : Only (fun k => k = y.m) w1 w')
    (hq : Kq Try.prog 31 .u64 (.pointer none) w' y.m (T.length + 1) (upd (fun a => (getT T a).map fun _ => ptrOf (y.X a)) e.tx (some (ptrOf x)))) :
    TabIn w' (fun k => S k ∨ (w.heap.size ≤ k ∧ k < w1.heap.size)) p ⟨y.m, fun k => if w.heap.size ≤ k then (if k < w1.heap.size then some e.tx else none) else y.own k, fun a => if a = e.tx then x else y.X a⟩ (T ++ [e]) := by
  have hm : ∀ k, S k → k < w.heap.size := h.lt
  have ho2 : Only (fun k => k = y.m) w w' := (Only.of_new hb).trans ho
  have hol : ∀ k a, y.own k = some a → k < w.heap.size := fun k a hk => hm k (h.own k a hk).1
  refine ⟨h.blk.only ho2 h.pm, ?_, fun z hz => ?_, fun k a hk => ?_, .inl h.sp, .inl h.sm, keys_app h.keys hn, fun k hk => ?_⟩
  · rw [List.length_append]
    refine hq.ext fun a _ => ?_
    rw [getT_app _ _ _ hn]
    unfold upd
    split
    · rename_i ha; subst ha; simp
    · rename_i ha; simp [ha]
  · rcases List.mem_append.1 hz with hz | hz
    · have hne : z.tx ≠ e.tx := getT_none hn z hz
      show EntAt w' _ (if z.tx = e.tx then x else y.X z.tx) z
      rw [if_neg hne]
      refine ((h.ents z hz).only ho2 fun k hk => (h.own k _ hk).2.2).more fun k hk => ?_
      show (if w.heap.size ≤ k then (if k < w1.heap.size then some e.tx else none) else y.own k) = some z.tx
      rw [if_neg (Nat.not_le.2 (hol k _ hk))]
      exact hk
    · simp at hz
      subst hz
      show EntAt w' _ (if z.tx = z.tx then x else y.X z.tx) z
      rw [if_pos rfl]
      refine (hx.only ho fun k hk e => ?_).more fun k hk => ?_
      · have := hm _ h.sm; omega
      · show (if w.heap.size ≤ k then (if k < w1.heap.size then some z.tx else none) else y.own k) = some z.tx
        rw [if_pos hk.1, if_pos hk.2]
  · simp only at hk
    split at hk
    · rename_i h1
      split at hk
      · rename_i h2
        refine ⟨.inr ⟨h1, h2⟩, fun e => ?_, fun e => ?_⟩
        · have := hm _ h.sp; omega
        · have := hm _ h.sm; simp only at e; omega
      · cases hk
    · exact ⟨.inl (h.own k a hk).1, (h.own k a hk).2⟩
  · have h1 := hb.size
    have h2 := ho.size
    rcases hk with hk | hk
    · have := hm k hk; omega
    · omega
end
end Go.Proofs.Ytcljendidhfobaa
