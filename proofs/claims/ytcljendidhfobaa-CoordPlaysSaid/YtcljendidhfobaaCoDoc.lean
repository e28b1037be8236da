/- The document's table in memory. -/
import Derived.Test.YtcljendidhfobaaCoWrites
import Derived.Test.YtcljendidhfobaaCoOne
namespace Go.Proofs.Ytcljendidhfobaa
set_option linter.unusedVariables false
open Go.RowKit

abbrev Vt := Int × Int × Bool
def vtrow (l : List Vt) : List Value := l.flatMap fun v => [.int .i64 v.1, .int .u64 v.2.1, .bool v.2.2]
theorem vtrow_len (l : List Vt) : (vtrow l).length = l.length * 3 := flat_len _ 3 (fun _ => rfl) l
theorem vtrow_app (a b : List Vt) : vtrow (a ++ b) = vtrow a ++ vtrow b := by simp [vtrow]
theorem vtrow_at {l : List Vt} {i : Nat} {x : Vt} (h : l[i]? = some x) {j : Nat} (hj : j < 3) : (vtrow l)[i * 3 + j]? = [Value.int .i64 x.1, .int .u64 x.2.1, .bool x.2.2][j]? := flat_at _ 3 (fun _ => rfl) l i x j h hj
/-- an entry of the document's, and where its parts lie -/
structure Dt where
  tx : Int
  low : Int
  l : List Sq
  A : Option Addr
  c : Nat
  vts : List Vt
  vA : Option Addr
  vc : Nat
def Dt.sv (d : Dt) : Value := .slice d.A d.l.length d.c
def Dt.vv (d : Dt) : Value := .slice d.vA d.vts.length d.vc
def Dt.cs (d : Dt) : List Value := [.int .u64 d.tx, .int .u64 d.low, d.sv, d.vv]
def Dt.shs (d : Dt) : List Sh := d.l.map Sq.sh
def Dt.votes (d : Dt) : List (Int × Int) := d.vts.map fun v => (v.1, v.2.1)
def erow (D : List Dt) : List Value := D.flatMap Dt.cs
theorem erow_len (D : List Dt) : (erow D).length = D.length * 4 := flat_len _ 4 (fun _ => rfl) D
theorem erow_app (a b : List Dt) : erow (a ++ b) = erow a ++ erow b := by simp [erow]
theorem erow_at {D : List Dt} {i : Nat} {d : Dt} (h : D[i]? = some d) {j : Nat} (hj : j < 4) : (erow D)[i * 4 + j]? = d.cs[j]? := flat_at _ 4 (fun _ => rfl) D i d j h hj
def DFoot (q : Nat) (ov : Value) (D : List Dt) (k : Nat) : Prop := k = q ∨ ov.ownBlock = some k ∨ ∃ d ∈ D, d.vv.ownBlock = some k ∨ d.sv.ownBlock = some k ∨ ∃ s ∈ d.l, (Value.slice s.A s.vs.length s.c).ownBlock = some k
structure DocAt (w : World) (S : Nat → Prop) (q : Nat) (oA : Option Addr) (oc : Nat) (D : List Dt) : Prop where
  blk : Blk w q 64 #[.slice oA D.length oc]
  row : w.ownsRow 0 82 4 (.slice oA D.length oc) D.length (erow D)
  vts : ∀ d ∈ D, w.ownsRow 0 86 3 d.vv d.vts.length (vtrow d.vts)
  shs : ∀ d ∈ D, w.ownsRow 0 57 2 d.sv d.l.length (srow d.l)
  vers : ∀ d ∈ D, ∀ s ∈ d.l, w.ownsRow 0 33 6 (.slice s.A s.vs.length s.c) s.vs.length (vrow s.vs)
  apart : ∀ (i j : Nat) (a b : Dt), i ≠ j → D[i]? = some a → D[j]? = some b → ∀ k, a.vv.ownBlock = some k → b.vv.ownBlock ≠ some k
  foot : ∀ k, DFoot q (.slice oA D.length oc) D k → S k
  lt : ∀ k, S k → k < w.heap.size
section
variable {w w' : World} {S X : Nat → Prop} {q oc : Nat} {oA : Option Addr} {D : List Dt}
theorem DocAt.fr (h : DocAt w S q oA oc D) {d : Dt} (hd : d ∈ D) {k : Nat} (hk : d.vv.ownBlock = some k) : S k := h.foot k (.inr (.inr ⟨d, hd, .inl hk⟩))
theorem DocAt.only (h : DocAt w S q oA oc D) (ho : Only X w w') (hx : ∀ k, S k → ¬ X k) : DocAt w' S q oA oc D :=
  ⟨h.blk.only ho (hx _ (h.foot _ (.inl rfl))), own_only h.row ho (fun k hk => hx _ (h.foot _ (.inr (.inl hk)))), fun d hd => own_only (h.vts d hd) ho (fun k hk => hx _ (h.fr hd hk)), fun d hd => own_only (h.shs d hd) ho (fun k hk => hx _ (h.foot k (.inr (.inr ⟨d, hd, .inr (.inl hk)⟩)))),
    fun d hd s hs => own_only (h.vers d hd s hs) ho (fun k hk => hx _ (h.foot k (.inr (.inr ⟨d, hd, .inr (.inr ⟨s, hs, hk⟩)⟩)))), h.apart, h.foot, fun k hk => Nat.lt_of_lt_of_le (h.lt k hk) ho.size⟩
theorem DocAt.new (h : DocAt w S q oA oc D) (hb : Below w.heap.size w w') : DocAt w' S q oA oc D := h.only (X := fun _ => False) (Only.of_new hb) fun _ _ h => h
theorem DocAt.more {S' : Nat → Prop} (h : DocAt w S q oA oc D) (hs : ∀ k, S k → S' k) (hl : ∀ k, S' k → k < w.heap.size) : DocAt w S' q oA oc D := ⟨h.blk, h.row, h.vts, h.shs, h.vers, h.apart, fun k hk => hs k (h.foot k hk), hl⟩
theorem DocAt.hdr (h : DocAt w S q oA oc D) : w.cell? ⟨q, 0, none⟩ = some (.slice oA D.length oc) := h.blk.cell 0
/-- an entry's four cells -/
theorem DocAt.ent (h : DocAt w S q oA oc D) {i : Nat} {d : Dt} (hi : D[i]? = some d) : ∃ g, oA = some ⟨g, 0, none⟩ ∧ g < w.heap.size ∧ w.cell? ⟨g, i * 4, none⟩ = some (.int .u64 d.tx) ∧ w.cell? ⟨g, i * 4 + 1, none⟩ = some (.int .u64 d.low) ∧ w.cell? ⟨g, i * 4 + 2, none⟩ = some (.slice d.A d.l.length d.c) ∧ w.cell? ⟨g, i * 4 + 3, none⟩ = some (.slice d.vA d.vts.length d.vc) := by
  have hlt := (List.getElem?_eq_some_iff.1 hi).1
  obtain ⟨g, cap, hv, _, hgl⟩ := h.row.form (by omega)
  have hA : oA = some ⟨g, 0, none⟩ := by injection hv
  have hr := h.row
  rw [hA] at hr
  have hc : ∀ j, j < 4 → w.cell? ⟨g, i * 4 + j, none⟩ = d.cs[j]? := fun j hj => (hr.cellAt (i * 4 + j) (by omega)).trans (erow_at hi hj)
  exact ⟨g, hA, hgl, hc 0 (by omega), hc 1 (by omega), hc 2 (by omega), hc 3 (by omega)⟩
theorem DocAt.vote (h : DocAt w S q oA oc D) {d : Dt} (hd : d ∈ D) {k : Nat} {v : Vt} (hk : d.vts[k]? = some v) : ∃ g, d.vA = some ⟨g, 0, none⟩ ∧ g < w.heap.size ∧ w.cell? ⟨g, k * 3, none⟩ = some (.int .i64 v.1) ∧ w.cell? ⟨g, k * 3 + 1, none⟩ = some (.int .u64 v.2.1) ∧ w.cell? ⟨g, k * 3 + 2, none⟩ = some (.bool v.2.2) := by
  have hlt := (List.getElem?_eq_some_iff.1 hk).1
  obtain ⟨g, cap, hv, _, hgl⟩ := (h.vts d hd).form (by omega)
  have hA : d.vA = some ⟨g, 0, none⟩ := by injection hv
  have hr := h.vts d hd
  unfold Dt.vv at hr
  rw [hA] at hr
  have hc : ∀ j, j < 3 → w.cell? ⟨g, k * 3 + j, none⟩ = [Value.int .i64 v.1, .int .u64 v.2.1, .bool v.2.2][j]? := fun j hj => (hr.cellAt (k * 3 + j) (by omega)).trans (vtrow_at hk hj)
  exact ⟨g, hA, hgl, hc 0 (by omega), hc 1 (by omega), hc 2 (by omega)⟩
theorem DocAt.share (h : DocAt w S q oA oc D) {d : Dt} (hd : d ∈ D) {k : Nat} {s : Sq} (hk : d.l[k]? = some s) : ∃ g, d.A = some ⟨g, 0, none⟩ ∧ g < w.heap.size ∧ w.cell? ⟨g, k * 2, none⟩ = some (.int .i64 s.node) ∧ w.cell? ⟨g, k * 2 + 1, none⟩ = some (.slice s.A s.vs.length s.c) := by
  have hlt := (List.getElem?_eq_some_iff.1 hk).1
  obtain ⟨g, cap, hv, _, hgl⟩ := (h.shs d hd).form (by omega)
  have hA : d.A = some ⟨g, 0, none⟩ := by injection hv
  have hr := h.shs d hd
  unfold Dt.sv at hr
  rw [hA] at hr
  have hc : ∀ j, j < 2 → w.cell? ⟨g, k * 2 + j, none⟩ = s.cs[j]? := fun j hj => (hr.cellAt (k * 2 + j) (by omega)).trans (srow_at hk hj)
  exact ⟨g, hA, hgl, hc 0 (by omega), hc 1 (by omega)⟩
end
/-- where a transaction stands -/
def atD (D : List Dt) (tx : Int) (i : Nat) (d : Dt) : Prop := D[i]? = some d ∧ d.tx = tx ∧ ∀ (j : Nat) (x : Dt), j < i → D[j]? = some x → x.tx ≠ tx
def noD (D : List Dt) (tx : Int) : Prop := ∀ (j : Nat) (x : Dt), D[j]? = some x → x.tx ≠ tx
set_option maxHeartbeats 2000000 in
theorem rfind_no (S : Nat → Prop) (q : Nat) (oA : Option Addr) (oc : Nat) (D : List Dt) (tx : Int) (w : World) (h : DocAt w S q oA oc D) (hn : noD D tx) (hl : D.length ≤ 4096) :
    Calls Try.prog 33 #[.pointer (some ⟨q, 0, none⟩), .int .u64 tx] w fun e w' => e = .returned (.int .i64 (-1)) ∧ w = w' := by
  have fh := h.hdr
  have hql := h.blk.lt
  have HH := hide h
  have HN := hide hn
  clear h hn
  go_enter Try.func33, Try.ntmps33
  go_wp2_with fail
  go_loopw [5] (fun iv wr => ∃ k : Nat, k ≤ D.length ∧ iv = .int .i64 k ∧ w = wr) (fun iv _ => D.length - (intOf iv).toNat)
  case atStart => exact ⟨0, by omega, rfl, rfl⟩
  case round =>
    obtain ⟨k, hk, rfl, rfl⟩ := hrel
    by_cases hlt : k < D.length
    · obtain ⟨d, hd⟩ : ∃ d, D[k]? = some d := ⟨D[k], List.getElem?_eq_getElem hlt⟩
      obtain ⟨g, hA, hgl, c0, _, _, _⟩ := (unhide HH).ent hd
      subst hA
      have g1 : (d.tx == tx) = false := beq_eq_false_iff_ne.2 (unhide HN k d hd)
      clear hd
      go_wp2_with fail
      exact ⟨⟨k + 1, by omega, by go_num, by first | rfl | trivial⟩, by simp [intOf]; omega⟩
    · obtain rfl : k = D.length := by omega
      go_wp2_with fail
      go_ret
      exact ⟨rfl, rfl⟩
set_option maxHeartbeats 2000000 in
theorem rfind_yes (S : Nat → Prop) (q : Nat) (oA : Option Addr) (oc : Nat) (D : List Dt) (tx : Int) (i : Nat) (d0 : Dt) (w : World) (h : DocAt w S q oA oc D) (hn : atD D tx i d0) (hl : D.length ≤ 4096) :
    Calls Try.prog 33 #[.pointer (some ⟨q, 0, none⟩), .int .u64 tx] w fun e w' => e = .returned (.int .i64 (i : Int)) ∧ w = w' := by
  have fh := h.hdr
  have hql := h.blk.lt
  have HH := hide h
  have HN := hide hn
  have hil := (List.getElem?_eq_some_iff.1 hn.1).1
  clear h hn
  go_enter Try.func33, Try.ntmps33
  go_wp2_with fail
  go_loopw [5] (fun iv wr => ∃ k : Nat, k ≤ i ∧ iv = .int .i64 k ∧ w = wr) (fun iv _ => D.length - (intOf iv).toNat)
  case atStart => exact ⟨0, by omega, rfl, rfl⟩
  case round =>
    obtain ⟨k, hk, rfl, rfl⟩ := hrel
    have hlt : k < D.length := by omega
    obtain ⟨d, hd⟩ : ∃ d, D[k]? = some d := ⟨D[k], List.getElem?_eq_getElem hlt⟩
    obtain ⟨g, hA, hgl, c0, _, _, _⟩ := (unhide HH).ent hd
    subst hA
    by_cases hki : k < i
    · have g1 : (d.tx == tx) = false := beq_eq_false_iff_ne.2 ((unhide HN).2.2 k d hki hd)
      clear hd
      go_wp2_with fail
      exact ⟨⟨k + 1, by omega, by go_num, by first | rfl | trivial⟩, by simp [intOf]; omega⟩
    · obtain rfl : k = i := by omega
      have hdd : d = d0 := by have := (unhide HN).1; rw [hd] at this; injection this
      have g1 : (d.tx == tx) = true := beq_iff_eq.2 (by rw [hdd]; exact (unhide HN).2.1)
      clear hd hdd
      go_wp2_with fail
      go_ret
      exact ⟨rfl, rfl⟩
end Go.Proofs.Ytcljendidhfobaa
