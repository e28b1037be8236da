/- num.Uvars: the iterator's contract. -/
import Derived.RangeFuncNested
import Derived.RangeFuncBound
import Derived.RangeFuncCalls
import Derived.RangeFuncLeaves
import Derived.RangeFuncBox
import Derived.RangeFuncFrom
import Derived.Shelf.Abstract
import Derived.Shelf.RegionOpen
import Derived.WalkKit
import Derived.OwnWalkIn
import Derived.TacticsInMore
import Derived.LoopNIn
import Derived.LoopIn
import Derived.Test.YtbiinlkdgankkaaNumWrite
namespace Go.Proofs.Ytbiinlkdgankkaa
open Go.RowKit Go.Shelf
set_option linter.unusedVariables false
attribute [local go_sem] Oper.semAt_some

namespace Num
/-- the numbers that stand from the front on: where each begins, which it is; behind them: where the next would begin -/
inductive Reach (b : List UInt8) : List (Nat × Nat) → Nat → Prop where
  | nil : Reach b [] 0
  | more {pre : List (Nat × Nat)} {p n k : Nat} : Reach b pre p → p < b.length → take (b.drop p) = (n, k, 0) → Reach b (pre ++ [(p, n)]) (p + k)
theorem take_pos {l : List UInt8} {n k : Nat} (h : take l = (n, k, 0)) : 1 ≤ k ∧ k ≤ l.length ∧ n < 18446744073709551616 := by
  obtain ⟨_, h2, h3, h4⟩ := take_only h
  have := uv_ne n
  exact ⟨by omega, h3, h4⟩
theorem Reach.le {b : List UInt8} {pre : List (Nat × Nat)} {p : Nat} (h : Reach b pre p) : p ≤ b.length ∧ pre.length ≤ p := by
  induction h with
  | nil => simp
  | more h1 h2 h3 ih =>
    have := take_pos h3
    rw [List.length_drop] at this
    simp
    omega
theorem Reach.uniq {b : List UInt8} {pre : List (Nat × Nat)} {p q : Nat} (h : Reach b pre p) (h' : Reach b pre q) : p = q := by
  induction h generalizing q with
  | nil =>
    generalize hz : ([] : List (Nat × Nat)) = z at h'
    cases h' with
    | nil => rfl
    | more _ _ _ => simp at hz
  | @more pre p n k h1 h2 h3 ih =>
    generalize hz : pre ++ [(p, n)] = z at h'
    cases h' with
    | nil => simp at hz
    | @more pre2 p2 n2 k2 g1 g2 g3 =>
      obtain ⟨e1, e2⟩ := List.append_inj' hz rfl
      simp only [List.cons.injEq, Prod.mk.injEq, and_true] at e2
      obtain ⟨rfl, rfl⟩ := e2
      rw [h3] at g3
      simp only [Prod.mk.injEq, and_true] at g3
      omega
/-- no number begins at p -/
def Stops (b : List UInt8) (p : Nat) : Prop := b.length ≤ p ∨ (take (b.drop p)).2.2 ≠ 0
end Num

theorem uvars_in (F : Fence) (n : Nat) (h : F.fn 17) (hro : F.round = none) (a : Option Addr) (len cap : Nat) (w : World) :
    CallsIn F n Try.prog 17 #[.slice a len cap] w fun e w' => e = .returned (.func (.func 26) #[] #[.pointer (some ⟨w.heap.size, 0, none⟩)]) ∧ w' = w.alloc (.cells #[.slice a len cap] 23) := by
  refine callsIn_of_wp Try.func17 rfl h ?_ hro
  simp only [Try.ntmps17, List.size_toArray, List.length_cons, List.length_nil, Nat.reduceAdd, Nat.reduceSub, Array.replicate_succ, Array.replicate_zero, List.push_toArray, List.append_toArray, List.nil_append, List.cons_append]
  gi_wp2
  go_ret
  exact ⟨rfl, rfl⟩

/-- what a round must keep: what lies below n₀, and the block of the iterator's own variable -/
structure KeepU (n₀ Bs : Nat) (W W' : World) : Prop where
  below : Below n₀ W W'
  box : W'.heap[Bs]? = W.heap[Bs]?
theorem KeepU.refl (n₀ Bs : Nat) (W : World) : KeepU n₀ Bs W W := ⟨Below.refl _ _, rfl⟩
theorem KeepU.t {n₀ Bs : Nat} {A B C : World} (h : KeepU n₀ Bs A B) (k : KeepU n₀ Bs B C) : KeepU n₀ Bs A C := ⟨h.below.trans k.below, k.box.trans h.box⟩
theorem KeepU.b {n₀ Bs : Nat} {w : World} (hn : n₀ ≤ w.heap.size) (hb : Bs < w.heap.size) (W : World) (l : Nat) (o o' : Obj) (hl : w.heap.size ≤ l) (h : W.heap[l]? = some o) (h1 : o.isCells = false) (h2 : o.isWalk = false) : KeepU n₀ Bs W (W.putObj l o') :=
  ⟨belowK_b hn W l o o' hl h h1 h2, (grownBy_putObj' W l o').block Bs (by have := (Array.getElem?_eq_some_iff.1 h).1; omega) (fun e => by cases e; omega)⟩

set_option maxRecDepth 100000 in
set_option maxHeartbeats 2000000 in
theorem uvars1_in (n : Nat) (hn : 1 ≤ n) (l Bs n₀ : Nat) (b : List UInt8) (A : Option Addr) (cap : Nat) (hcap : b.length ≤ cap) (hb62 : b.length ≤ 4611686018427387904) (hc63 : cap ≤ 9223372036854775807) (J Jx : List (Nat × Nat) → World → Prop)
    (hY : ∀ pre x W, J pre W → pre.length < b.length → YieldAt Fence.wide (n - 1) Try.prog l #[.int .i64 (x.1 : Int), .int .u64 (x.2 : Int)] W fun e W' =>
      (e = .returned (.bool true) ∧ J (pre ++ [x]) W' ∧ KeepU n₀ Bs W W') ∨ (e = .returned (.bool false) ∧ Jx (pre ++ [x]) W'))
    (W : World) (hc : W.cell? ⟨Bs, 0, none⟩ = some (.slice A b.length cap)) (hr : RdB W n₀ A b) (h0 : J [] W) :
    CallsIn Fence.wide n Try.prog 26 #[.func (.yield l) #[] #[], .pointer (some ⟨Bs, 0, none⟩)] W fun e W' => (∃ v, e = .returned v) ∧
      ((∃ ys, (∃ p, Num.Reach b ys p ∧ Num.Stops b p) ∧ J ys W') ∨ (∃ pre, (∃ p, Num.Reach b pre p) ∧ Jx pre W')) := by
  refine callsIn_of_wp Try.func26 rfl trivial ?_ rfl
  simp only [Try.ntmps26, List.size_toArray, List.length_cons, List.length_nil, Nat.reduceAdd, Nat.reduceSub, Array.replicate_succ, Array.replicate_zero, List.push_toArray, List.append_toArray, List.nil_append, List.cons_append]
  gi_wp2
  gi_loopw [3] (fun i wr => ∃ (p : Nat) (pre : List (Nat × Nat)), i = .int .i64 p ∧ Num.Reach b pre p ∧ J pre wr ∧ KeepU n₀ Bs W wr) (fun i _ => b.length - (intOf i).toNat)
  case atStart => exact ⟨0, [], rfl, .nil, h0, KeepU.refl _ _ _⟩
  case round =>
    obtain ⟨p, pre, rfl, hre, hJs, hkx⟩ := hrel
    have hnx := hkx.below
    have hcx := (World.cell?_of_block (a := ⟨Bs, 0, none⟩) hkx.box).trans hc
    by_cases hlt : p < b.length
    · obtain ⟨ad, rfl, _, _⟩ := (hr.below hnx) (by omega)
      have hrp : RdB wr n₀ (some (ad.add p)) (b.drop p) := (hr.below hnx).off p
      have hcp : ¬ cap = p := by omega
      have hlp := hre.le.2
      have H1 := hide (takeUvar_n (b.drop p) (some (ad.add p)) (b.length - p) (cap - p) n₀ wr hrp (by simp) (by omega))
      rcases Num.tk_cases (b.drop p) 0 0 with ⟨n, k, hx⟩ | hx | hx
      · have hx : Num.take (b.drop p) = (n, k, 0) := hx
        have hk := Num.take_pos hx
        rw [List.length_drop] at hk
        rw [hx] at H1
        have HX := hide hx
        clear hx
        obtain ⟨fn, tmps, assign, body, hy, hR⟩ := hY pre (p, n) wr hJs (by omega)
        dsimp only at hy
        gi_wp2_with (refine ⟨trivial, ?_⟩; gi_at_call 11; refine (callsIn_wide.2 (unhide H1)).mono ?_; rintro e w' ⟨rfl, rfl⟩)
        refine hR.mono ?_
        rintro e W3 (⟨rfl, hJ3, hk3⟩ | ⟨rfl, hJx3⟩)
        · gi_wp2
          go_roundw
          case rel => exact ⟨p + k, pre ++ [(p, n)], by go_num, hre.more hlt (unhide HX), hJ3, hkx.t hk3⟩
          case measure => simp [intOf]; omega
        · gi_wp2
          refine bodyPost_ret (results_none rfl _ _ _) rfl ?_
          exact ⟨⟨_, rfl⟩, .inr ⟨_, ⟨_, hre.more hlt (unhide HX)⟩, hJx3⟩⟩
      · have hx : Num.take (b.drop p) = (0, 0, 3) := hx
        have HST : Hid (Num.Stops b p) := .inr (by rw [hx]; decide)
        rw [hx] at H1
        clear hx
        gi_wp2_with (refine ⟨trivial, ?_⟩; gi_at_call 11; refine (callsIn_wide.2 (unhide H1)).mono ?_; rintro e w' ⟨rfl, rfl⟩)
        refine ⟨fun _ h => (by cases h), ?_⟩
        gi_wp2
        refine bodyPost_ret (results_none rfl _ _ _) rfl ?_
        exact ⟨⟨_, rfl⟩, .inl ⟨pre, ⟨p, hre, unhide HST⟩, hJs⟩⟩
      · have hx : Num.take (b.drop p) = (0, 0, 2) := hx
        have HST : Hid (Num.Stops b p) := .inr (by rw [hx]; decide)
        rw [hx] at H1
        clear hx
        gi_wp2_with (refine ⟨trivial, ?_⟩; gi_at_call 11; refine (callsIn_wide.2 (unhide H1)).mono ?_; rintro e w' ⟨rfl, rfl⟩)
        refine ⟨fun _ h => (by cases h), ?_⟩
        gi_wp2
        refine bodyPost_ret (results_none rfl _ _ _) rfl ?_
        exact ⟨⟨_, rfl⟩, .inl ⟨pre, ⟨p, hre, unhide HST⟩, hJs⟩⟩
    · gi_wp2
      go_end0
      exact ⟨⟨_, rfl⟩, .inl ⟨pre, ⟨p, hre, .inl (by omega)⟩, hJs⟩⟩

/-- num.Uvars(b) hands back a value that goes through the numbers of b -/
theorem uvars_stops (n : Nat) (hn : 1 ≤ n) (Bs n₀ : Nat) (b : List UInt8) (A : Option Addr) (cap : Nat) (hcap : b.length ≤ cap) (hb62 : b.length ≤ 4611686018427387904) (hc63 : cap ≤ 9223372036854775807) (w : World)
    (hBs : Bs < w.heap.size) (hn₀ : n₀ ≤ w.heap.size) (hc : w.cell? ⟨Bs, 0, none⟩ = some (.slice A b.length cap)) (hr : RdB w n₀ A b) :
    SeqStopsK Fence.wide n Try.prog 26 #[.pointer (some ⟨Bs, 0, none⟩)] (fun x : Nat × Nat => #[Value.int .i64 (x.1 : Int), Value.int .u64 (x.2 : Int)]) (KeepU n₀ Bs)
      (fun ys => ∃ p, Num.Reach b ys p ∧ Num.Stops b p) (fun pre => ∃ p, Num.Reach b pre p) b.length w := fun l J Jx W hW _ _ hY h0 => by
  have hc' := (hW.cell (p := ⟨Bs, 0, none⟩) hBs).trans hc
  exact uvars1_in n hn l Bs n₀ b A cap hcap hb62 hc63 J Jx hY W hc' (hr.below (hW.mono hn₀)) h0
end Go.Proofs.Ytbiinlkdgankkaa
