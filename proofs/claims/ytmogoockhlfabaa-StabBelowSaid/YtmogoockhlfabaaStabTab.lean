/- Tables of stab in memory; the small answers. -/
import Derived.Test.YtmogoockhlfabaaVecOpen
import Derived.Test.YtmogoockhlfabaaVecMath2
import Derived.Test.YtmogoockhlfabaaOnly
namespace Go.Proofs.Ytmogoockhlfabaa
set_option linter.unusedVariables false
open Go.RowKit

/-- a table: its datacenter, its beats (and where), what was got and told, what is stable -/
structure Tb where
  dc : Int
  A : Option Addr
  n : Nat
  c : Nat
  bs : List Int
  got : Vec.V
  known : Vec.V
  st : Int
def tabCells (s : Tb) : Array Value := #[.int .i64 s.dc, .slice s.A s.n s.c, .int .i64 s.got.ep, .bool (s.got.h 0), .bool (s.got.h 1), .bool (s.got.h 2), .bool (s.got.h 3), .int .u64 (s.got.t 0), .int .u64 (s.got.t 1), .int .u64 (s.got.t 2), .int .u64 (s.got.t 3), .int .i64 s.known.ep, .bool (s.known.h 0), .bool (s.known.h 1), .bool (s.known.h 2), .bool (s.known.h 3), .int .u64 (s.known.t 0), .int .u64 (s.known.t 1), .int .u64 (s.known.t 2), .int .u64 (s.known.t 3), .int .u64 s.st]
def Uv (n : Int) : Value := .int .u64 n
theorem tabAt {w : World} {p : Nat} {t : TypeId} {s : Tb} (h : Blk w p t (tabCells s)) : w.cell? ⟨p, 0, none⟩ = some (.int .i64 s.dc) ∧
    w.cell? ⟨p, 1, none⟩ = some (.slice s.A s.n s.c) ∧
    w.cell? ⟨p, 2, none⟩ = some (.int .i64 s.got.ep) ∧
    w.cell? ⟨p, 3, none⟩ = some (.bool (s.got.h 0)) ∧
    w.cell? ⟨p, 4, none⟩ = some (.bool (s.got.h 1)) ∧
    w.cell? ⟨p, 5, none⟩ = some (.bool (s.got.h 2)) ∧
    w.cell? ⟨p, 6, none⟩ = some (.bool (s.got.h 3)) ∧
    w.cell? ⟨p, 7, none⟩ = some (.int .u64 (s.got.t 0)) ∧
    w.cell? ⟨p, 8, none⟩ = some (.int .u64 (s.got.t 1)) ∧
    w.cell? ⟨p, 9, none⟩ = some (.int .u64 (s.got.t 2)) ∧
    w.cell? ⟨p, 10, none⟩ = some (.int .u64 (s.got.t 3)) ∧
    w.cell? ⟨p, 11, none⟩ = some (.int .i64 s.known.ep) ∧
    w.cell? ⟨p, 12, none⟩ = some (.bool (s.known.h 0)) ∧
    w.cell? ⟨p, 13, none⟩ = some (.bool (s.known.h 1)) ∧
    w.cell? ⟨p, 14, none⟩ = some (.bool (s.known.h 2)) ∧
    w.cell? ⟨p, 15, none⟩ = some (.bool (s.known.h 3)) ∧
    w.cell? ⟨p, 16, none⟩ = some (.int .u64 (s.known.t 0)) ∧
    w.cell? ⟨p, 17, none⟩ = some (.int .u64 (s.known.t 1)) ∧
    w.cell? ⟨p, 18, none⟩ = some (.int .u64 (s.known.t 2)) ∧
    w.cell? ⟨p, 19, none⟩ = some (.int .u64 (s.known.t 3)) ∧
    w.cell? ⟨p, 20, none⟩ = some (.int .u64 s.st) :=
  ⟨h.cell 0, h.cell 1, h.cell 2, h.cell 3, h.cell 4, h.cell 5, h.cell 6, h.cell 7, h.cell 8, h.cell 9, h.cell 10, h.cell 11, h.cell 12, h.cell 13, h.cell 14, h.cell 15, h.cell 16, h.cell 17, h.cell 18, h.cell 19, h.cell 20⟩
theorem tabFz {w : World} {p : Nat} {t : TypeId} {s : Tb} (h : Blk w p t (tabCells s)) (i : Nat) : w.frozen? ⟨p, i, none⟩ = false := h.frozen i
/-- the table lies at p, its beats from B on -/
structure TabAt (w : World) (B p : Nat) (s : Tb) : Prop where
  blk : Blk w p 45 (tabCells s)
  row : w.ownsRow B 29 1 (.slice s.A s.n s.c) s.n (s.bs.map Uv)
  ge : B ≤ p
  n1 : 1 ≤ s.n
  n4 : s.n ≤ 4
theorem TabAt.len {w : World} {B p : Nat} {s : Tb} (h : TabAt w B p s) : s.bs.length = s.n := by have := h.row.1; simpa using this
theorem TabAt.new {w w' : World} {B p : Nat} {s : Tb} (h : TabAt w B p s) (hb : Below w.heap.size w w') : TabAt w' B p s :=
  ⟨h.blk.below hb h.blk.lt, own_below h.row hb (fun k hk => (h.row.lt k hk).2), h.ge, h.n1, h.n4⟩
theorem TabAt.drewN {w : World} {B p : Nat} {s : Tb} (h : TabAt w B p s) (k : Nat) : TabAt (w.drewN k) B p s := ⟨h.blk, h.row, h.ge, h.n1, h.n4⟩
theorem TabAt.apart {w : World} {B p : Nat} {s : Tb} (h : TabAt w B p s) : (Value.slice s.A s.n s.c).ownBlock ≠ some p := fun e => by
  rcases h.row.2 with ⟨h0, _⟩ | ⟨g, cap, cur, hv, _, hg, _⟩
  · rw [h0] at e; cases e
  · rw [hv] at e
    have e : some g = some p := e
    injection e with e
    subst e
    have hb := h.blk
    unfold Blk at hb
    rw [hg] at hb
    injection hb with hb
    injection hb with _ hb _
    exact absurd hb (by decide)
/-- the table's own block is written -/
theorem TabAt.put {w w' : World} {B p : Nat} {s s' : Tb} (h : TabAt w B p s) (hb : Blk w' p 45 (tabCells s')) (ho : Only (fun k => k = p) w w') (e1 : s'.A = s.A) (e2 : s'.n = s.n) (e3 : s'.c = s.c) (e4 : s'.bs = s.bs) : TabAt w' B p s' := by
  obtain ⟨dc, A, n, c, bs, g, k, st⟩ := s'
  simp only at e1 e2 e3 e4
  subst e1 e2 e3 e4
  exact ⟨hb, own_only h.row ho (fun k hk e => h.apart (e ▸ hk)), h.ge, h.n1, h.n4⟩

theorem TabAt.putSt {w : World} {B p : Nat} {s : Tb} (h : TabAt w B p s) (v : Int) : TabAt (w.setCell ⟨p, 20, none⟩ (.int .u64 v)) B p { s with st := v } ∧ Only (fun k => k = p) w (w.setCell ⟨p, 20, none⟩ (.int .u64 v)) := by
  have ho : Only (fun k => k = p) w (w.setCell ⟨p, 20, none⟩ (.int .u64 v)) := Only.setCell (p := ⟨p, 20, none⟩) (Only.refl (fun k => k = p) w) rfl _
  exact ⟨h.put (h.blk.set_ 20 _) ho rfl rfl rfl rfl, ho⟩
def mn (a b : Int) : Int := if b < a then b else a
def locTo (bs : List Int) (k : Nat) : Int := (bs.take k).foldl mn (bs.getD 0 0)
def loc (bs : List Int) : Int := locTo bs bs.length
theorem locTo_succ {bs : List Int} {k : Nat} {x : Int} (h : bs[k]? = some x) : locTo bs (k + 1) = mn (locTo bs k) x := by
  unfold locTo
  rw [List.take_add_one, h, List.foldl_append]
  rfl

set_option maxHeartbeats 2000000 in
set_option maxRecDepth 20000 in
theorem local_any (B p : Nat) (s : Tb) (w : World) (h : TabAt w B p s) : Calls Try.prog 8 #[.pointer (some ⟨p, 0, none⟩)] w fun e w' => e = .returned (.int .u64 (loc s.bs)) ∧ w = w' := by
  have fc := (tabAt h.blk).2.1
  have hn1 := h.n1
  have hn4 := h.n4
  have hl := h.len
  obtain ⟨g, cap, hv, _, _⟩ := h.row.form (by omega)
  have hA : s.A = some ⟨g, 0, none⟩ := by injection hv
  have hrow := h.row
  rw [hA] at fc hrow
  have hcell : ∀ k x, s.bs[k]? = some x → w.cell? ⟨g, k, none⟩ = some (.int .u64 x) := fun k x hx => (hrow.cellAt k (by have := (List.getElem?_eq_some_iff.1 hx).1; omega)).trans (by rw [List.getElem?_map, hx]; rfl)
  obtain ⟨x0, hx0⟩ : ∃ x, s.bs[0]? = some x := ⟨s.bs[0], List.getElem?_eq_getElem (by omega)⟩
  have f0 := hcell 0 x0 hx0
  have HC := hide hcell
  have HX0 := hide hx0
  have HB := hide h
  clear hcell hx0 h hv hrow
  go_enter Try.func8, Try.ntmps8
  go_wp2_with fail
  go_loopw [3, 19] (fun t i wr => ∃ k : Nat, k ≤ s.n ∧ i = .int .i64 k ∧ t = .int .u64 (locTo s.bs k) ∧ wr = w) (fun _ i _ => s.n - (intOf i).toNat)
  case atStart => exact ⟨0, by omega, rfl, by
    have : locTo s.bs 0 = x0 := by simp [locTo, unhide HX0]
    rw [this], rfl⟩
  case round =>
    obtain ⟨k, hk, rfl, rfl, rfl⟩ := hrel
    by_cases hlt : k < s.n
    · obtain ⟨x, hx⟩ : ∃ x, s.bs[k]? = some x := ⟨s.bs[k], List.getElem?_eq_getElem (by omega)⟩
      have c0 := unhide HC k x hx
      have HS := hide (locTo_succ hx)
      clear hx
      go_wp2_with fail
      refine ⟨⟨k + 1, by omega, by go_num, by rw [unhide HS]; rfl, trivial⟩, by simp [intOf]; omega⟩
    · obtain rfl : k = s.n := by omega
      go_wp2_with fail
      go_ret
      exact ⟨by show Ending.returned (.int .u64 (locTo s.bs s.n)) = _; rw [loc, hl], rfl⟩
theorem local_nil (a b t : Int) (w : World) : Calls Try.prog 8 #[.pointer none] w fun e w' => e = .returned (.int .u64 0) ∧ Below w.heap.size w w' := by
  go_enter Try.func8, Try.ntmps8
  go_wp2_with fail
  go_ret
  exact ⟨rfl, Below.refl _ _⟩
theorem applied_nil (a b t : Int) (w : World) : Calls Try.prog 9 #[.pointer none] w fun e w' => e = .returned (.int .u64 0) ∧ Below w.heap.size w w' := by
  go_enter Try.func9, Try.ntmps9
  go_wp2_with fail
  go_ret
  exact ⟨rfl, Below.refl _ _⟩
theorem stable_nil (a b t : Int) (w : World) : Calls Try.prog 10 #[.pointer none] w fun e w' => e = .returned (.int .u64 0) ∧ Below w.heap.size w w' := by
  go_enter Try.func10, Try.ntmps10
  go_wp2_with fail
  go_ret
  exact ⟨rfl, Below.refl _ _⟩
theorem members_nil (w : World) : Calls Try.prog 11 #[.pointer none] w fun e w' => e = .returned (.agg (Vec.hasCells fun _ => false)) ∧ Below w.heap.size w w' := by
  have HM0 := hide ((Mem.start w).new (t := 22) (cs := Vec.hasCells fun _ => false) w.heap.size rfl)
  go_enter Try.func11, Try.ntmps11
  go_wp2_with (refine wpList_store_blk rfl 22 (.tmp 2) (.tmp 5) rfl (w.heap.size) _ (by rfl) (by rfl) 22 _ (unhide HM0).blk0 (by kernel_rfl) (by rfl) (by simp [Value.oneCell']) ?_; intro w1 hbS hgS; have HM1 := hide ((unhide HM0).grown0 hbS hgS); have HGw1 := hide hgS; clear hbS hgS)
  exact bodyPost_ret (results_cell_row rfl _ _ w.heap.size 22 _ (0, 0) _ rfl (unhide HM1).blk0 Try.underlying22 rfl (by kernel_rfl)) rfl ⟨rfl, (unhide HM1).below⟩
theorem lift_nil (a b t : Int) (w : World) : Calls Try.prog 21 #[.pointer none, .int .u64 t] w fun e w' => e = .returned (.tuple #[]) ∧ Below w.heap.size w w' := by
  go_enter Try.func21, Try.ntmps21
  go_wp2_with fail
  refine bodyPost_end (results_none rfl _ _ _) rfl ⟨rfl, Below.refl _ _⟩
theorem beat_nil (a b t : Int) (w : World) : Calls Try.prog 14 #[.pointer none, .int .i64 a, .int .u64 t] w fun e w' => e = .returned (.tuple #[]) ∧ Below w.heap.size w w' := by
  go_enter Try.func14, Try.ntmps14
  go_wp2_with fail
  refine bodyPost_ret (results_none rfl _ _ _) rfl ⟨rfl, Below.refl _ _⟩
theorem got_nil (a b t : Int) (w : World) : Calls Try.prog 15 #[.pointer none, .int .i64 a, .int .u64 t] w fun e w' => e = .returned (.tuple #[]) ∧ Below w.heap.size w w' := by
  go_enter Try.func15, Try.ntmps15
  go_wp2_with fail
  refine bodyPost_ret (results_none rfl _ _ _) rfl ⟨rfl, Below.refl _ _⟩
theorem told_nil (a b t : Int) (w : World) : Calls Try.prog 16 #[.pointer none, .int .i64 a, .int .i64 b, .int .u64 t] w fun e w' => e = .returned (.tuple #[]) ∧ Below w.heap.size w w' := by
  go_enter Try.func16, Try.ntmps16
  go_wp2_with fail
  refine bodyPost_ret (results_none rfl _ _ _) rfl ⟨rfl, Below.refl _ _⟩
theorem join_nil (a b t : Int) (w : World) : Calls Try.prog 19 #[.pointer none, .int .i64 a, .int .i64 b] w fun e w' => e = .returned (.int .i64 1) ∧ Below w.heap.size w w' := by
  go_enter Try.func19, Try.ntmps19
  go_wp2_with fail
  go_ret
  exact ⟨rfl, Below.refl _ _⟩
theorem leave_nil (a b t : Int) (w : World) : Calls Try.prog 20 #[.pointer none, .int .i64 a, .int .i64 b] w fun e w' => e = .returned (.int .i64 1) ∧ Below w.heap.size w w' := by
  go_enter Try.func20, Try.ntmps20
  go_wp2_with fail
  go_ret
  exact ⟨rfl, Below.refl _ _⟩

theorem stable_any (B p : Nat) (s : Tb) (w : World) (h : TabAt w B p s) : Calls Try.prog 10 #[.pointer (some ⟨p, 0, none⟩)] w fun e w' => e = .returned (.int .u64 s.st) ∧ w = w' := by
  have fc := tabAt h.blk
  go_enter Try.func10, Try.ntmps10
  go_wp2_with fail
  go_ret
  exact ⟨rfl, rfl⟩
theorem members_any (B p : Nat) (s : Tb) (w : World) (h : TabAt w B p s) : Calls Try.prog 11 #[.pointer (some ⟨p, 0, none⟩)] w fun e w' => e = .returned (.agg (Vec.hasCells s.got.h)) ∧ Below w.heap.size w w' := by
  have fc := tabAt (h.blk.alloc (.cells (Vec.hasCells fun _ => false) 22))
  have fc0 := tabAt h.blk
  have hpl := h.blk.lt
  have hne : p ≠ w.heap.size := Nat.ne_of_lt hpl
  have HM0 := hide ((Mem.start w).new (t := 22) (cs := Vec.hasCells fun _ => false) w.heap.size rfl)
  go_enter Try.func11, Try.ntmps11
  go_wp2_with (refine wpList_store_blk rfl 22 (.tmp 2) (.tmp 10) rfl (w.heap.size) _ (by rfl) (by rfl) 22 _ (unhide HM0).blk0 (by kernel_rfl) (by rfl) (by simp [Value.oneCell']) ?_; intro w1 hbS hgS; have HM1 := hide ((unhide HM0).grown0 hbS hgS); have HGw1 := hide hgS; clear hbS hgS)
  exact bodyPost_ret (results_cell_row rfl _ _ w.heap.size 22 _ (0, 0) _ rfl (unhide HM1).blk0 Try.underlying22 rfl (by kernel_rfl)) rfl ⟨rfl, (unhide HM1).below⟩
set_option maxHeartbeats 2000000 in
theorem lift_any (B p : Nat) (s : Tb) (t : Int) (w : World) (h : TabAt w B p s) : Calls Try.prog 21 #[.pointer (some ⟨p, 0, none⟩), .int .u64 t] w fun e w' => e = .returned (.tuple #[]) ∧ TabAt w' B p { s with st := max s.st t } ∧ Only (fun k => k = p) w w' := by
  have fc := tabAt h.blk
  have fz := tabFz h.blk 20
  have HB := hide h
  have hmx : Hid ((if s.st < t then t else s.st) = max s.st t) := hide (by split <;> omega)
  go_enter Try.func21, Try.ntmps21
  go_wp2_with fail
  all_goals
    refine bodyPost_end (results_none rfl _ _ _) rfl ⟨rfl, ?_⟩
    first | rw [show max s.st t = t by omega] | rw [show max s.st t = s.st by omega]
    exact (unhide HB).putSt _

set_option maxHeartbeats 2000000 in
set_option maxRecDepth 20000 in
theorem applied_any (B p : Nat) (s : Tb) (w : World) (h : TabAt w B p s) : Calls Try.prog 9 #[.pointer (some ⟨p, 0, none⟩)] w fun e w' => e = .returned (.int .u64 (Vec.least (Vec.raise s.got s.dc (loc s.bs))).1) ∧ Below w.heap.size w w' := by
  have HB := hide h
  have HL := hide (fun u : World => local_any B p s u)
  have HR := hide (fun u : World => raise_any s.got s.dc (loc s.bs) u)
  have HLe := hide (fun u : World => least_any (Vec.raise s.got s.dc (loc s.bs)) u)
  have fl := fun x : SinceW w.heap.size w => tabAt ((unhide HB).new x.h).blk
  clear h
  go_enter Try.func9, Try.ntmps9
  go_wp2_with fail
  refine wp_region_since (B := w.heap.size) (by kernel_rfl) (by kernel_rfl) ?_
  repeat (go_big_quiet_step (first
    | exact calls_since_same _ (unhide HL _ ((unhide HB).new (SinceW.h _)))
    | exact calls_since _ (Nat.le_refl _) (unhide HR _)
    | exact calls_since _ (Nat.le_refl _) (unhide HLe _)))
  refine wpQuiet_nil ?_
  rintro _ ⟨⟨w2, hb⟩, rfl⟩
  have HB2 := hide hb
  clear hb fl
  go_wp2_with fail
  go_ret
  exact ⟨rfl, unhide HB2⟩
def appl (s : Tb) : Int := (Vec.least (Vec.raise s.got s.dc (loc s.bs))).1
def setl (s : Tb) : Int := (Vec.least (Vec.raise s.known s.dc (appl s))).1
def settled (s : Tb) : Tb := { s with st := max s.st (setl s) }

set_option maxHeartbeats 2000000 in
set_option maxRecDepth 20000 in
theorem settle_any (B p : Nat) (s : Tb) (w : World) (h : TabAt w B p s) : Calls Try.prog 22 #[.pointer (some ⟨p, 0, none⟩)] w fun e w' => e = .returned (.tuple #[]) ∧ TabAt w' B p (settled s) ∧ Only (fun k => k = p) w w' := by
  have HB := hide h
  have HA : Hid (∀ u : World, TabAt u B p s → Calls Try.prog 9 #[.pointer (some ⟨p, 0, none⟩)] u fun e w' => e = .returned (.int .u64 (appl s)) ∧ Below u.heap.size u w') := hide (fun u : World => applied_any B p s u)
  have HR := hide (fun u : World => raise_any s.known s.dc (appl s) u)
  have HLe : Hid (∀ u : World, Calls Try.prog 17 #[Vec.val (Vec.raise s.known s.dc (appl s))] u fun e w' => e = .returned (.tuple #[.int .u64 (setl s), .bool (Vec.least (Vec.raise s.known s.dc (appl s))).2]) ∧ Below u.heap.size u w') := hide (fun u : World => least_any (Vec.raise s.known s.dc (appl s)) u)
  have fl := fun x : SinceW w.heap.size w => tabAt ((unhide HB).new x.h).blk
  clear h
  go_enter Try.func22, Try.ntmps22
  go_wp2_with fail
  refine wp_region_since (B := w.heap.size) (by kernel_rfl) (by kernel_rfl) ?_
  repeat (go_big_quiet_step (first
    | exact calls_since _ (Nat.le_refl _) (unhide HA _ ((unhide HB).new (SinceW.h _)))
    | exact calls_since _ (Nat.le_refl _) (unhide HR _)
    | exact calls_since _ (Nat.le_refl _) (unhide HLe _)))
  refine wpQuiet_nil ?_
  rintro _ ⟨⟨w2, hb⟩, rfl⟩
  have HB2 := hide hb
  have HT2 := hide ((unhide HB).new hb)
  have fc := tabAt (unhide HT2).blk
  have fz := tabFz (unhide HT2).blk 20
  clear hb fl
  go_wp2_with fail
  all_goals
    refine bodyPost_end (results_none rfl _ _ _) rfl ⟨rfl, ?_⟩
    unfold settled
    first | rw [show max s.st (setl s) = setl s by omega] | rw [show max s.st (setl s) = s.st by omega]
    have h := (unhide HT2).putSt
    exact ⟨(h _).1, (Only.of_new (unhide HB2)).trans (h _).2⟩

theorem TabAt.only {S : Nat → Prop} {w w' : World} {B p : Nat} {s : Tb} (h : TabAt w B p s) (ho : Only S w w') (h1 : ¬ S p) (h2 : ∀ k, (Value.slice s.A s.n s.c).ownBlock = some k → ¬ S k) : TabAt w' B p s :=
  ⟨h.blk.only ho h1, own_only h.row ho h2, h.ge, h.n1, h.n4⟩
/-- the blocks of a table -/
def Own (p : Nat) (s : Tb) (k : Nat) : Prop := k = p ∨ (Value.slice s.A s.n s.c).ownBlock = some k
def beaten (s : Tb) (node t : Int) : Tb := if node < 0 ∨ (s.n : Int) ≤ node then s else settled { s with bs := s.bs.set node.toNat (max (s.bs.getD node.toNat 0) t) }

set_option maxHeartbeats 2000000 in
set_option maxRecDepth 20000 in
theorem beat_any (B p : Nat) (s : Tb) (node t : Int) (w : World) (h : TabAt w B p s) : Calls Try.prog 14 #[.pointer (some ⟨p, 0, none⟩), .int .i64 node, .int .u64 t] w fun e w' => e = .returned (.tuple #[]) ∧ TabAt w' B p (beaten s node t) ∧ Only (Own p s) w w' := by
  have HB := hide h
  have fc := tabAt h.blk
  have hn1 := h.n1
  have hn4 := h.n4
  by_cases hin : node < 0 ∨ (s.n : Int) ≤ node
  · have f1 : node < 0 ∨ ¬ node < (s.n : Int) := by omega
    go_enter Try.func14, Try.ntmps14
    rcases hin with hin | hin
    all_goals
      go_wp2_with fail
      refine bodyPost_ret (results_none rfl _ _ _) rfl ⟨rfl, ?_, Only.refl _ _⟩
      unfold beaten
      rw [if_pos (by omega)]
      exact unhide HB
  · obtain ⟨k, rfl⟩ : ∃ k : Nat, node = k := ⟨node.toNat, by omega⟩
    have hk : k < s.n := by omega
    have hl := h.len
    obtain ⟨g, cap, hv, _, _⟩ := h.row.form (by omega)
    have hA : s.A = some ⟨g, 0, none⟩ := by injection hv
    have hrow := h.row
    rw [hA] at hrow fc
    obtain ⟨x, hx⟩ : ∃ x, s.bs[k]? = some x := ⟨s.bs[k], List.getElem?_eq_getElem (by omega)⟩
    have c0 : w.cell? ⟨g, k, none⟩ = some (.int .u64 x) := (hrow.cellAt k (by omega)).trans (by rw [List.getElem?_map, hx]; rfl)
    have fz := hrow.frozenAt k
    have HRow := hide hrow
    clear h hrow hv
    go_enter Try.func14, Try.ntmps14
    go_upto_region 1 with (fail)
    go_region_law fail
    all_goals
      rw [show (if x < t then t else x) = max x t by split <;> omega]
      have hne : p ≠ g := fun e => (unhide HB).apart (by rw [hA, e]; rfl)
      have HT1 : Hid (TabAt (w.setCell ⟨g, k, none⟩ (.int .u64 (max x t))).drew B p { s with bs := s.bs.set k (max x t) }) := hide ⟨((unhide HB).blk.far (p := ⟨g, k, none⟩) hne _).drew, by
        show (w.setCell ⟨g, k, none⟩ (.int .u64 (max x t))).drew.ownsRow B 29 1 (.slice s.A s.n s.c) s.n ((s.bs.set k (max x t)).map Uv)
        rw [List.map_set, hA]
        exact ((unhide HRow).stored k (Uv (max x t))).1, (unhide HB).ge, hn1, hn4⟩
      have HSE := hide (settle_any B p _ _ (unhide HT1))
      have HO1 : Hid (Only (Own p s) w (w.setCell ⟨g, k, none⟩ (.int .u64 (max x t))).drew) := hide ((Only.setCell (S := Own p s) (p := ⟨g, k, none⟩) (Only.refl (Own p s) w) (.inr (by rw [hA]; rfl)) _).drew)
      have HX := hide hx
      clear c0 fz hx
      go_wp2_with (go_at_call 22; refine (unhide HSE).mono ?_; rintro _ w2 ⟨rfl, ht2, ho2⟩)
      refine bodyPost_end (results_none rfl _ _ _) rfl ⟨rfl, ?_, (unhide HO1).trans (ho2.mono fun k _ h => .inl h)⟩
      unfold beaten
      rw [if_neg (by omega), Int.toNat_natCast, List.getD_eq_getElem?_getD, unhide HX]
      exact ht2

def gotten (s : Tb) (dc t : Int) : Tb := if dc = s.dc then s else settled { s with got := Vec.raise s.got dc t }
def setsAt : Array Value → Nat → List Value → Array Value
  | cs, _, [] => cs
  | cs, o, v :: r => setsAt (cs.setIfInBounds o v) (o + 1) r
theorem Blk.setCells {g : Nat} {t : TypeId} : ∀ {w : World} {cs : Array Value} (h : Blk w g t cs) (vs : List Value) (o : Nat), Blk (w.setCells g o vs) g t (setsAt cs o vs)
  | _, _, h, [], _ => h
  | _, _, h, v :: r, o => (h.set_ o v).setCells r (o + 1)
theorem Only.setCells {S : Nat → Prop} {g : Nat} (hg : S g) : ∀ (vs : List Value) (o : Nat) (w : World), Only S w (w.setCells g o vs)
  | [], _, w => Only.refl S w
  | v :: r, o, w => (Only.setCell (S := S) (p := ⟨g, o, none⟩) (Only.refl S w) hg v).trans (Only.setCells hg r (o + 1) _)
theorem TabAt.putGot {w : World} {B p : Nat} {s : Tb} (h : TabAt w B p s) (v : Vec.V) :
    TabAt (w.setCells p 2 (Vec.cells v).toList) B p { s with got := v } ∧ Only (fun k => k = p) w (w.setCells p 2 (Vec.cells v).toList) := by
  have ho := Only.setCells (S := fun k => k = p) (g := p) rfl (Vec.cells v).toList 2 w
  have hb := h.blk.setCells (Vec.cells v).toList 2
  have e : setsAt (tabCells s) 2 (Vec.cells v).toList = tabCells { s with got := v } := by simp [setsAt, tabCells, Vec.cells]
  rw [e] at hb
  exact ⟨h.put hb ho rfl rfl rfl rfl, ho⟩
theorem TabAt.putKnown {w : World} {B p : Nat} {s : Tb} (h : TabAt w B p s) (v : Vec.V) :
    TabAt (w.setCells p 11 (Vec.cells v).toList) B p { s with known := v } ∧ Only (fun k => k = p) w (w.setCells p 11 (Vec.cells v).toList) := by
  have ho := Only.setCells (S := fun k => k = p) (g := p) rfl (Vec.cells v).toList 11 w
  have hb := h.blk.setCells (Vec.cells v).toList 11
  have e : setsAt (tabCells s) 11 (Vec.cells v).toList = tabCells { s with known := v } := by simp [setsAt, tabCells, Vec.cells]
  rw [e] at hb
  exact ⟨h.put hb ho rfl rfl rfl rfl, ho⟩
theorem TabAt.there {w : World} {B p : Nat} {s : Tb} (h : TabAt w B p s) {o n : Nat} (hn : o + n ≤ 21) : w.there p o n := fun j hj => by
  have hz : (tabCells s).size = 21 := rfl
  refine ⟨?_, h.blk.frozen _⟩
  rw [h.blk.cell, Array.getElem?_eq_getElem (by omega)]
  rfl
set_option maxHeartbeats 2000000 in
set_option maxRecDepth 20000 in
theorem got_any (B p : Nat) (s : Tb) (dc t : Int) (w : World) (h : TabAt w B p s) : Calls Try.prog 15 #[.pointer (some ⟨p, 0, none⟩), .int .i64 dc, .int .u64 t] w fun e w' => e = .returned (.tuple #[]) ∧ TabAt w' B p (gotten s dc t) ∧ Only (fun k => k = p) w w' := by
  have HB := hide h
  have fc := tabAt h.blk
  by_cases hd : dc = s.dc
  · have f1 : (dc == s.dc) = true := beq_iff_eq.2 hd
    have HD := hide hd
    clear hd
    go_enter Try.func15, Try.ntmps15
    go_wp2_with fail
    refine bodyPost_ret (results_none rfl _ _ _) rfl ⟨rfl, ?_, Only.refl _ _⟩
    unfold gotten
    rw [if_pos (unhide HD)]
    exact unhide HB
  · have f1 : (dc == s.dc) = false := beq_eq_false_iff_ne.2 hd
    have HD := hide hd
    have HR := hide (raise_any s.got dc t w)
    clear hd
    go_enter Try.func15, Try.ntmps15
    go_upto_region 2 with (first
      | (go_at_call 18; refine (unhide HR).mono ?_; rintro _ w1 ⟨rfl, hb1⟩; have HT1 := hide ((unhide HB).new hb1); have HB1 := hide hb1; clear hb1)
      | (refine wpList_store_mid rfl 42 (.tmp 25) (.tmp 23) rfl p 2 (Vec.cells (Vec.raise s.got dc t)) rfl rfl ((unhide HT1).there (by rw [Vec.cells_size]; omega)) (by kernel_rfl) (Vec.cells_one _) ?_
         have h2 := (unhide HT1).putGot (Vec.raise s.got dc t); have HT2 := hide h2.1; have HO2 := hide h2.2; clear h2
         generalize w1.setCells p 2 (Vec.cells (Vec.raise s.got dc t)).toList = w2 at HT2 HO2 ⊢))
    have HSE := hide (settle_any B p _ w2 (unhide HT2))
    go_wp2_with (go_at_call 22; refine (unhide HSE).mono ?_; rintro _ w3 ⟨rfl, ht3, ho3⟩)
    refine bodyPost_end (results_none rfl _ _ _) rfl ⟨rfl, ?_, (Only.of_new (unhide HB1)).trans ((unhide HO2).trans ho3)⟩
    unfold gotten
    rw [if_neg (unhide HD)]
    exact ht3
end Go.Proofs.Ytmogoockhlfabaa
