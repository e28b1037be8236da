/- frame.Scan: the iterator's contract. -/
import Derived.RangeFuncBox
import Derived.Shelf.Abstract
import Derived.Shelf.RegionOpen
import Derived.WalkKit
import Derived.OwnWalkIn
import Derived.TacticsInMore
import Derived.LoopNIn
import Derived.LoopIn
import Derived.Test.YtjlmcjegfbnhpaaFrmFirst
import Derived.Test.YtjlmcjegfbnhpaaFrmSeq
namespace Go.Proofs.Ytjlmcjegfbnhpaa
open Go.RowKit Go.Shelf
set_option linter.unusedVariables false
attribute [local go_sem] Oper.semAt_some

namespace Frm
/-- a frame that is handed out: where it begins, which it is, where its body lies, and that body's room -/
abbrev El := Nat × F × Option Addr × Nat
/-- the frames that stand from the front on; behind them: where the next would begin -/
inductive Reach (b : List UInt8) : List El → Nat → Prop where
  | nil : Reach b [] 0
  | more {pre : List El} {p n : Nat} {f : F} {A : Option Addr} {c : Nat} : Reach b pre p → first (b.drop p) = (f, n, 0) → Reach b (pre ++ [(p, f, A, c)]) (p + n)
theorem first_pos {l : List UInt8} {f : F} {n : Nat} (h : first l = (f, n, 0)) : 21 ≤ n ∧ n ≤ l.length ∧ f.body.length ≤ l.length := by
  have hk := kind l
  rw [h] at hk
  generalize hx : (f, n, (0 : Int)) = x at hk
  cases hk with
  | ok v r hb h0 h1 h2 h3 =>
    simp only [Prod.mk.injEq, and_true] at hx
    obtain ⟨rfl, rfl⟩ := hx
    refine ⟨by omega, h2, ?_⟩
    simp only [got, List.length_take, List.length_drop]
    omega
  | _ => simp at hx
theorem Reach.le {b : List UInt8} {pre : List El} {p : Nat} (h : Reach b pre p) : p ≤ b.length ∧ pre.length ≤ p := by
  induction h with
  | nil => simp
  | more h1 h3 ih =>
    have := first_pos h3
    rw [List.length_drop] at this
    simp
    omega
theorem Reach.uniq {b : List UInt8} {pre : List El} {p q : Nat} (h : Reach b pre p) (h' : Reach b pre q) : p = q := by
  induction h generalizing q with
  | nil =>
    generalize hz : ([] : List El) = z at h'
    cases h' with
    | nil => rfl
    | more _ _ => simp at hz
  | @more pre p n f A c h1 h3 ih =>
    generalize hz : pre ++ [(p, f, A, c)] = z at h'
    cases h' with
    | nil => simp at hz
    | @more pre2 p2 n2 f2 A2 c2 g1 g3 =>
      obtain ⟨e1, e2⟩ := List.append_inj' hz rfl
      simp only [List.cons.injEq, Prod.mk.injEq, and_true] at e2
      obtain ⟨rfl, rfl, _, _⟩ := e2
      rw [h3] at g3
      simp only [Prod.mk.injEq, and_true] at g3
      omega
/-- no frame begins at p -/
def Stops (b : List UInt8) (p : Nat) : Prop := (first (b.drop p)).2.2 ≠ 0
abbrev encF (x : El) : Array Value := #[.int .i64 (x.1 : Int), .agg #[.int .i64 x.2.1.ver, .int .i64 x.2.1.epoch, .int .i64 x.2.1.seq, .int .i64 x.2.1.ack, .slice x.2.2.1 x.2.1.body.length x.2.2.2]]
/-- what holds of a frame when it is handed out -/
def Rel (b : List UInt8) (pre : List El) (x : El) (W : World) : Prop :=
  Reach b pre x.1 ∧ (∃ n, first (b.drop x.1) = (x.2.1, n, 0)) ∧ ∃ B, B ≤ W.heap.size ∧ RdB W B x.2.2.1 x.2.1.body
end Frm

theorem scanC_any (F : Fence) (n : Nat) (h : F.fn 17) (hro : F.round = none) (a : Option Addr) (len cap : Nat) (w : World) :
    CallsIn F n Try.prog 17 #[.slice a len cap] w fun e w' => e = .returned (.func (.func 24) #[] #[.pointer (some ⟨w.heap.size, 0, none⟩)]) ∧ w' = w.alloc (.cells #[.slice a len cap] 22) := by
  refine callsIn_of_wp Try.func17 rfl h ?_ hro
  simp only [Try.ntmps17, List.size_toArray, List.length_cons, List.length_nil, Nat.reduceAdd, Nat.reduceSub, Array.replicate_succ, Array.replicate_zero, List.push_toArray, List.append_toArray, List.nil_append, List.cons_append]
  gi_wp2
  go_ret
  exact ⟨rfl, rfl⟩

/-- what a round must keep: what lies below n₀, and the block of the iterator's own variable -/
structure KeepU (n₀ Bs : Nat) (W W' : World) : Prop where
  below : Below n₀ W W'
  box : W'.heap[Bs]? = W.heap[Bs]?
theorem KeepU.refl (n₀ Bs : Nat) (W : World) : KeepU n₀ Bs W W := ⟨Below.refl _ _, rfl⟩
theorem KeepU.t {n₀ Bs : Nat} {A B C : World} (h : KeepU n₀ Bs A B) (k : KeepU n₀ Bs B C) : KeepU n₀ Bs A C := ⟨h.below.trans k.below, k.box.trans h.box⟩
theorem KeepU.b {n₀ Bs : Nat} {w : World} (hn : n₀ ≤ w.heap.size) (hb : Bs < w.heap.size) (W : World) (l : Nat) (o o' : Obj) (hl : w.heap.size ≤ l) (h : W.heap[l]? = some o) (h1 : o.isCells = false) (h2 : o.isWalk = false) : KeepU n₀ Bs W (W.putObj l o') :=
  ⟨belowK_b hn W l o o' hl h h1 h2, (grownBy_putObj' W l o').block Bs (by have := (Array.getElem?_eq_some_iff.1 h).1; omega) (fun e => by cases e; omega)⟩
theorem grown_of_below {w w' : World} (h : Below w.heap.size w w') : w.grownBy w' none := ⟨h.os, h.tape, h.output, h.size, fun k hk _ => h.block k hk⟩
theorem first_n (l : List UInt8) (A : Option Addr) (n c B : Nat) (w : World) (hr : RdB w B A l) (hB : B ≤ w.heap.size) (hn : l.length = n) (hlc : n ≤ c) (hc : c ≤ 9223372036854775807) :
    Calls Try.prog 23 #[.slice A n c] w (FreshF w (Frm.first l)) := by
  subst hn
  exact first_any l A c B w hr hB hlc hc

set_option maxRecDepth 100000 in
set_option maxHeartbeats 2000000 in
theorem scan1_in (n : Nat) (hn : 1 ≤ n) (l Bs n₀ : Nat) (b : List UInt8) (A : Option Addr) (cap : Nat) (hcap : b.length ≤ cap) (hb62 : b.length ≤ 4611686018427387904) (hc63 : cap ≤ 9223372036854775807) (J Jx : List Frm.El → World → Prop)
    (W : World) (hJ : AbidesFrom W.heap.size J)
    (hY : ∀ pre x W, J pre W → Frm.Rel b pre x W → pre.length < b.length → YieldAt Fence.wide (n - 1) Try.prog l (Frm.encF x) W fun e W' =>
      (e = .returned (.bool true) ∧ J (pre ++ [x]) W' ∧ KeepU n₀ Bs W W') ∨ (e = .returned (.bool false) ∧ Jx (pre ++ [x]) W'))
    (hBs : Bs < W.heap.size) (hn₀ : n₀ ≤ W.heap.size) (hc : W.cell? ⟨Bs, 0, none⟩ = some (.slice A b.length cap)) (hr : RdB W n₀ A b) (h0 : J [] W) :
    CallsIn Fence.wide n Try.prog 24 #[.func (.yield l) #[] #[], .pointer (some ⟨Bs, 0, none⟩)] W fun e W' => (∃ v, e = .returned v) ∧
      ((∃ ys, (∃ p, Frm.Reach b ys p ∧ Frm.Stops b p) ∧ J ys W') ∨ (∃ pre, (∃ p, Frm.Reach b pre p) ∧ Jx pre W')) := by
  refine callsIn_of_wp Try.func24 rfl trivial ?_ rfl
  simp only [Try.ntmps24, List.size_toArray, List.length_cons, List.length_nil, Nat.reduceAdd, Nat.reduceSub, Array.replicate_succ, Array.replicate_zero, List.push_toArray, List.append_toArray, List.nil_append, List.cons_append]
  gi_wp2
  gi_loopw [3] (fun i wr => ∃ (p : Nat) (pre : List Frm.El), i = .int .i64 p ∧ Frm.Reach b pre p ∧ J pre wr ∧ KeepU n₀ Bs W wr) (fun i _ => b.length - (intOf i).toNat)
  case atStart => exact ⟨0, [], rfl, .nil, h0, KeepU.refl _ _ _⟩
  case round =>
    obtain ⟨p, pre, rfl, hre, hJs, hkx⟩ := hrel
    have hnx := hkx.below
    have hcx := (World.cell?_of_block (a := ⟨Bs, 0, none⟩) hkx.box).trans hc
    by_cases hlt : p < b.length
    · obtain ⟨ad, rfl, _, _⟩ := (hr.below hnx) (by omega)
      have hsz := hnx.size
      have hrp : RdB wr n₀ (some (ad.add p)) (b.drop p) := (hr.below hnx).off p
      have hcp : ¬ cap = p := by omega
      have hlp := hre.le.2
      have s1 : (0 : Int) ≤ (p : Int) := by omega
      have s2 : (p : Int) ≤ (b.length : Int) := by omega
      have s3 : (p : Int) ≤ (cap : Int) := by omega
      have H1 := hide (first_n (b.drop p) (some (ad.add p)) (b.length - p) (cap - p) n₀ wr hrp (by omega) (by simp) (by omega) (by omega))
      obtain ⟨f, m, er, hx⟩ : ∃ f m er, Frm.first (b.drop p) = (f, m, er) := ⟨_, _, _, rfl⟩
      rw [hx] at H1
      by_cases he : er = 0
      · subst he
        have hk := Frm.first_pos hx
        rw [List.length_drop] at hk
        have HX := hide hx
        clear hx
        have HY := hide hY
        have HJ := hide hJs
        gi_wp2_with (refine ⟨trivial, ?_⟩; gi_at_call 23; refine (callsIn_wide.2 (unhide H1)).mono ?_; rintro e w1 ⟨A1, c1, rfl, hown1, hbel1, hcc1⟩
                     unfold Frm.val
                     have hs1 := hbel1.size
                     have HW1 := hide ((hkx.t ⟨hbel1.mono (by omega), hbel1.block Bs (by omega)⟩ : KeepU n₀ Bs W w1))
                     have HR1 := hide (RdB.of_own hown1)
                     have HJ1 := hide (hJ _ _ _ none (unhide HJ) (grown_of_below hbel1) (fun r e => by cases e))
                     have H2 := hide (((Mem.start w1).new (t := 24) (cs := Frm.cells f.ver f.epoch f.seq f.ack (.slice A1 f.body.length c1)) w1.heap.size rfl))
                     have fc1 := Frm.cellsAt (unhide H2).blk0
                     clear hown1 hbel1 hcc1
                     obtain ⟨fn, tmps, assign, body, hy, hR⟩ := unhide HY pre (p, f, A1, c1) (w1.alloc (.cells (Frm.cells f.ver f.epoch f.seq f.ack (.slice A1 f.body.length c1)) 24))
                       (hJ _ _ _ none (unhide HJ1) (grown_of_below ((Below.refl _ _).alloc (Nat.le_refl _) _)) (fun r e => by cases e))
                       ⟨hre, ⟨m, unhide HX⟩, w1.heap.size, by simp, (unhide HR1).alloc (Nat.le_refl _) _⟩ (by omega)
                     dsimp only [Frm.encF, Frm.cells] at hy hR)
        refine hR.mono ?_
        rintro e W3 (⟨rfl, hJ3, hk3⟩ | ⟨rfl, hJx3⟩)
        · gi_wp2
          go_roundw
          case rel => exact ⟨p + m, pre ++ [(p, f, A1, c1)], by go_num, hre.more (unhide HX), hJ3, ((unhide HW1).t ⟨(Below.refl _ w1).alloc (by omega) _, Below.heap_alloc _ _ _ (by omega)⟩).t hk3⟩
          case measure => simp [intOf]; omega
        · gi_wp2
          refine bodyPost_ret (results_none rfl _ _ _) rfl ?_
          exact ⟨⟨_, rfl⟩, .inr ⟨_, ⟨_, hre.more (unhide HX)⟩, hJx3⟩⟩
      · have HST : Hid (Frm.Stops b p) := hide (by rw [Frm.Stops, hx]; exact he)
        have fe : (er != 0) = true := by simp [he]
        clear hx
        have HJ := hide hJs
        gi_wp2_with (refine ⟨trivial, ?_⟩; gi_at_call 23; refine (callsIn_wide.2 (unhide H1)).mono ?_; rintro e w1 ⟨A1, c1, rfl, hown1, hbel1, hcc1⟩
                     unfold Frm.val
                     have HJ1 := hide (hJ _ _ _ none (unhide HJ) (grown_of_below hbel1) (fun r e => by cases e))
                     have HJ2 := hide (hJ _ _ _ none (unhide HJ1) (grown_of_below ((Below.refl _ _).alloc (Nat.le_refl _) (.cells (Frm.cells f.ver f.epoch f.seq f.ack (.slice A1 f.body.length c1)) 24))) (fun r e => by cases e))
                     clear hown1 hbel1 hcc1)
        refine ⟨fun _ h => (by cases h), ?_⟩
        gi_wp2
        refine bodyPost_ret (results_none rfl _ _ _) rfl ?_
        exact ⟨⟨_, rfl⟩, .inl ⟨pre, ⟨p, hre, unhide HST⟩, unhide HJ2⟩⟩
    · gi_wp2
      go_end0
      exact ⟨⟨_, rfl⟩, .inl ⟨pre, ⟨p, hre, by rw [Frm.Stops, List.drop_eq_nil_of_le (by omega)]; decide⟩, hJs⟩⟩

/-- frame.Scan(b) hands back a value that goes through the frames of b -/
theorem scan_stops (n : Nat) (hn : 1 ≤ n) (Bs n₀ : Nat) (b : List UInt8) (A : Option Addr) (cap : Nat) (hcap : b.length ≤ cap) (hb62 : b.length ≤ 4611686018427387904) (hc63 : cap ≤ 9223372036854775807) (w : World)
    (hBs : Bs < w.heap.size) (hn₀ : n₀ ≤ w.heap.size) (hc : w.cell? ⟨Bs, 0, none⟩ = some (.slice A b.length cap)) (hr : RdB w n₀ A b) :
    SeqRel Fence.wide n Try.prog 24 #[.pointer (some ⟨Bs, 0, none⟩)] Frm.encF (KeepU n₀ Bs) (Frm.Rel b)
      (fun ys => ∃ p, Frm.Reach b ys p ∧ Frm.Stops b p) (fun pre => ∃ p, Frm.Reach b pre p) b.length w := fun l J Jx W hW hJ _ hY h0 => by
  have hc' := (hW.cell (p := ⟨Bs, 0, none⟩) hBs).trans hc
  have hsz := hW.size
  exact scan1_in n hn l Bs n₀ b A cap hcap hb62 hc63 J Jx W hJ hY (by omega) (by omega) hc' (hr.below (hW.mono hn₀)) h0
end Go.Proofs.Ytjlmcjegfbnhpaa
