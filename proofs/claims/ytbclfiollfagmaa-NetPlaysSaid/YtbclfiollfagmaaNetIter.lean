/- Ways: the iterator's contract. -/
import Derived.RangeFuncNested
import Derived.RangeFuncBound
import Derived.RangeFuncCalls
import Derived.RangeFuncLeaves
import Derived.RangeFuncBox
import Derived.RangeFuncFrom
import Derived.Shelf.Abstract
import Derived.Shelf.RegionOpen
import Derived.WalkKit
import Derived.OwnWalkIn
import Derived.TacticsInMore
import Derived.LoopNIn
import Derived.LoopIn
import Derived.Scope
import Derived.WalkMore
import Derived.Test.YtbclfiollfagmaaNetAwake
namespace Go.Proofs.Ytbclfiollfagmaa
open Go.RowKit Go.Shelf
set_option linter.unusedVariables false
attribute [local go_sem] Oper.semAt_some

/-- what a round must keep: what lies below n₀, and the block of the iterator's own variable -/
structure KeepU (n₀ Bs : Nat) (W W' : World) : Prop where
  below : Below n₀ W W'
  box : W'.heap[Bs]? = W.heap[Bs]?
theorem KeepU.refl (n₀ Bs : Nat) (W : World) : KeepU n₀ Bs W W := ⟨Below.refl _ _, rfl⟩
theorem KeepU.t {n₀ Bs : Nat} {A B C : World} (h : KeepU n₀ Bs A B) (k : KeepU n₀ Bs B C) : KeepU n₀ Bs A C := ⟨h.below.trans k.below, k.box.trans h.box⟩
theorem KeepU.b {n₀ Bs : Nat} {w : World} (hn : n₀ ≤ w.heap.size) (hb : Bs < w.heap.size) (W : World) (l : Nat) (o o' : Obj) (hl : w.heap.size ≤ l) (h : W.heap[l]? = some o) (h1 : o.isCells = false) (h2 : o.isWalk = false) : KeepU n₀ Bs W (W.putObj l o') :=
  ⟨belowK_b hn W l o o' hl h h1 h2, (grownBy_putObj' W l o').block Bs (by have := (Array.getElem?_eq_some_iff.1 h).1; omega) (fun e => by cases e; omega)⟩
theorem ways_in (F : Fence) (n : Nat) (h : F.fn 24) (hro : F.round = none) (q : Option Addr) (w : World) :
    CallsIn F n Try.prog 24 #[.pointer q] w fun e w' => e = .returned (.func (.func 37) #[] #[.pointer (some ⟨w.heap.size, 0, none⟩)]) ∧ w' = w.alloc (.cells #[.pointer q] 22) := by
  refine callsIn_of_wp Try.func24 rfl h ?_ hro
  simp only [Try.ntmps24, List.size_toArray, List.length_cons, List.length_nil, Nat.reduceAdd, Nat.reduceSub, Array.replicate_succ, Array.replicate_zero, List.push_toArray, List.append_toArray, List.nil_append, List.cons_append]
  gi_wp2
  go_ret
  exact ⟨rfl, rfl⟩
abbrev encW (x : Nat × Nat) : Array Value := #[Value.int .i64 (x.1 : Int), Value.int .i64 (x.2 : Int)]
theorem ways1_nil (n : Nat) (hn : 1 ≤ n) (l Bs n₀ : Nat) (J Jx : List (Nat × Nat) → World → Prop) (W : World) (hc : W.cell? ⟨Bs, 0, none⟩ = some (.pointer none)) (h0 : J [] W) :
    CallsIn Fence.wide n Try.prog 37 #[.func (.yield l) #[] #[], .pointer (some ⟨Bs, 0, none⟩)] W fun e W' => (∃ v, e = .returned v) ∧
      ((∃ ys, ys = [] ∧ J ys W') ∨ (∃ pre, pre = [] ∧ Jx pre W')) := by
  refine callsIn_of_wp Try.func37 rfl trivial ?_ rfl
  simp only [Try.ntmps37, List.size_toArray, List.length_cons, List.length_nil, Nat.reduceAdd, Nat.reduceSub, Array.replicate_succ, Array.replicate_zero, List.push_toArray, List.append_toArray, List.nil_append, List.cons_append]
  refine wpIn_wide.2 (wp_scope_straight ((wpIn_wide (n := n)).1 ?_))
  gi_wp2
  rw [Exit.noGoto_ret]
  refine bodyPost_ret (results_none rfl _ _ _) rfl ?_
  exact ⟨⟨_, rfl⟩, .inl ⟨[], rfl, h0⟩⟩
theorem ways_stops_nil (n : Nat) (hn : 1 ≤ n) (Bs n₀ : Nat) (w : World) (hBs : Bs < w.heap.size) (hc : w.cell? ⟨Bs, 0, none⟩ = some (.pointer none)) :
    SeqStopsK Fence.wide n Try.prog 37 #[.pointer (some ⟨Bs, 0, none⟩)] encW (KeepU n₀ Bs) (fun ys => ys = []) (fun pre => pre = []) 0 w := fun l J Jx W hW _ _ hY h0 =>
  ways1_nil n hn l Bs n₀ J Jx W ((hW.cell (p := ⟨Bs, 0, none⟩) hBs).trans hc) h0
/-- the ways that have packets, up to the k-th -/
def wto (s : NS) (k : Nat) : List (Nat × Nat) := ((List.range k).filter fun j => decide (0 < (s.ways j).ps.length)).map fun j => (j / 21, j % 21)
theorem wto_zero (s : NS) : wto s 0 = [] := rfl
theorem wto_yes (s : NS) (k : Nat) (h : 0 < (s.ways k).ps.length) : wto s (k + 1) = wto s k ++ [(k / 21, k % 21)] := by
  unfold wto
  rw [List.range_succ, List.filter_append, List.map_append]
  simp [h]
theorem wto_no (s : NS) (k : Nat) (h : (s.ways k).ps.length = 0) : wto s (k + 1) = wto s k := by
  unfold wto
  rw [List.range_succ, List.filter_append, List.map_append]
  simp [h]
theorem wto_len (s : NS) : ∀ k, (wto s k).length ≤ k
  | 0 => by simp [wto]
  | k + 1 => by
    have ih := wto_len s k
    rcases Nat.eq_zero_or_pos (s.ways k).ps.length with h | h
    · rw [wto_no s k h]; omega
    · rw [wto_yes s k h, List.length_append, List.length_singleton]; omega
set_option maxRecDepth 100000 in
set_option maxHeartbeats 2000000 in
theorem ways1_in (n : Nat) (hn : 1 ≤ n) (l Bs n₀ B p : Nat) (s : NS) (J Jx : List (Nat × Nat) → World → Prop)
    (hY : ∀ pre x W, J pre W → pre.length < 441 → YieldAt Fence.wide (n - 1) Try.prog l (encW x) W fun e W' =>
      (e = .returned (.bool true) ∧ J (pre ++ [x]) W' ∧ KeepU n₀ Bs W W') ∨ (e = .returned (.bool false) ∧ Jx (pre ++ [x]) W'))
    (W : World) (hc : W.cell? ⟨Bs, 0, none⟩ = some (.pointer (some ⟨p, 0, none⟩))) (hp : p < n₀) (ha : NetAt W B p s) (h0 : J [] W) :
    CallsIn Fence.wide n Try.prog 37 #[.func (.yield l) #[] #[], .pointer (some ⟨Bs, 0, none⟩)] W fun e W' => (∃ v, e = .returned v) ∧
      ((∃ ys, ys = wto s 441 ∧ J ys W') ∨ (∃ pre, (∃ k, k < 441 ∧ pre = wto s (k + 1) ∧ 0 < (s.ways k).ps.length) ∧ Jx pre W')) := by
  have hcell : Hid (∀ (wr : World) (a b : Nat), KeepU n₀ Bs W wr → a < 21 → b < 21 → wr.cell? ⟨p, a * 21 + b, none⟩ = some (.slice (s.ways (a * 21 + b)).A (s.ways (a * 21 + b)).ps.length (s.ways (a * 21 + b)).c)) :=
    hide (fun wr a b hk h1 h2 => (hk.below.cell (p := ⟨p, a * 21 + b, none⟩) hp).trans (ha.cell (by omega)))
  have hbox : Hid (∀ wr : World, KeepU n₀ Bs W wr → wr.cell? ⟨Bs, 0, none⟩ = some (.pointer (some ⟨p, 0, none⟩))) := hide (fun wr hk => (World.cell?_of_block (a := ⟨Bs, 0, none⟩) hk.box).trans hc)
  clear ha
  refine callsIn_of_wp Try.func37 rfl trivial ?_ rfl
  simp only [Try.ntmps37, List.size_toArray, List.length_cons, List.length_nil, Nat.reduceAdd, Nat.reduceSub, Array.replicate_succ, Array.replicate_zero, List.push_toArray, List.append_toArray, List.nil_append, List.cons_append]
  refine wpIn_wide.2 (wp_scope_straight ((wpIn_wide (n := n)).1 ?_))
  gi_wp2
  apply wpIn_label
  gi_wp2
  clear hc
  gi_loopw [7] (fun i wr => ∃ a : Nat, a ≤ 21 ∧ i = .int .i64 a ∧ J (wto s (a * 21)) wr ∧ KeepU n₀ Bs W wr) (fun i _ => 21 - (intOf i).toNat)
  case atStart => exact ⟨0, by omega, rfl, h0, KeepU.refl _ _ _⟩
  case round =>
    obtain ⟨a, ha21, rfl, hJ, hK⟩ := hrel
    obtain ⟨wo, hwo⟩ : ∃ u : World, u = wr := ⟨_, rfl⟩
    subst hwo
    by_cases hlt : a < 21
    · have ga : decide ((a : Int) < 21) = true := decide_eq_true (by omega)
      gi_wp2
      gi_loopw [10] (fun i wr => ∃ b : Nat, b ≤ 21 ∧ i = .int .i64 b ∧ J (wto s (a * 21 + b)) wr ∧ KeepU n₀ Bs W wr) (fun i _ => 21 - (intOf i).toNat)
      case atStart => exact ⟨0, by omega, rfl, hJ, hK⟩
      case round =>
        obtain ⟨b, hb21, rfl, hJ2, hK2⟩ := hrel
        by_cases hlb : b < 21
        · have fc := unhide hcell wr a b hK2 hlt hlb
          have fb := unhide hbox wr hK2
          have hi0 : (0 : Int) ≤ (a : Int) := by omega
          have hi1 : (a : Int) < 21 := by omega
          have hi2 : (0 : Int) ≤ (b : Int) := by omega
          have hi3 : (b : Int) < 21 := by omega
          have ed : (a * 21 + b) / 21 = a := by omega
          have em : (a * 21 + b) % 21 = b := by omega
          rcases Nat.eq_zero_or_pos (s.ways (a * 21 + b)).ps.length with hz | hz
          · have g1 : (((s.ways (a * 21 + b)).ps.length : Int) == 0) = true := by rw [hz]; rfl
            have HZ := hide (wto_no s _ hz)
            clear hz
            gi_wp2
            go_roundw
            case rel => exact ⟨b + 1, by omega, by go_num, (unhide HZ) ▸ hJ2, hK2⟩
            case measure => simp [intOf]; omega
          · have g1 : (((s.ways (a * 21 + b)).ps.length : Int) == 0) = false := beq_eq_false_iff_ne.2 (by omega)
            have HZ := hide (wto_yes s _ hz)
            have HP := hide hz
            have hlen := wto_len s (a * 21 + b)
            obtain ⟨fn, tmps, assign, body, hy, hR⟩ := hY (wto s (a * 21 + b)) (a, b) wr hJ2 (by omega)
            dsimp only [encW] at hy
            clear hz
            gi_wp2
            refine hR.mono ?_
            have hwt : wto s (a * 21 + b + 1) = wto s (a * 21 + b) ++ [(a, b)] := by rw [unhide HZ, ed, em]
            rintro e W3 (⟨rfl, hJ3, hk3⟩ | ⟨rfl, hJx3⟩)
            · gi_wp2
              go_roundw
              case rel => exact ⟨b + 1, by omega, by go_num, hwt ▸ hJ3, hK2.t hk3⟩
              case measure => simp [intOf]; omega
            · gi_wp2
              rw [Exit.noGoto_normal]
              go_end0
              exact ⟨⟨_, rfl⟩, .inr ⟨_, ⟨a * 21 + b, by omega, hwt.symm, unhide HP⟩, hJx3⟩⟩
        · obtain rfl : b = 21 := by omega
          gi_wp2
          go_roundw
          case rel => exact ⟨a + 1, by omega, by go_num, by rw [show (a + 1) * 21 = a * 21 + 21 by omega]; exact hJ2, hK2⟩
          case measure => simp [intOf]; omega
    · obtain rfl : a = 21 := by omega
      gi_wp2
      rw [Exit.noGoto_normal]
      go_end0
      exact ⟨⟨_, rfl⟩, .inl ⟨_, rfl, hJ⟩⟩
theorem ways_stops (n : Nat) (hn : 1 ≤ n) (Bs n₀ B p : Nat) (s : NS) (w : World) (hBs : Bs < w.heap.size) (hn₀ : n₀ ≤ w.heap.size) (hc : w.cell? ⟨Bs, 0, none⟩ = some (.pointer (some ⟨p, 0, none⟩))) (hp : p < n₀) (ha : NetAt w B p s) :
    SeqStopsK Fence.wide n Try.prog 37 #[.pointer (some ⟨Bs, 0, none⟩)] encW (KeepU n₀ Bs) (fun ys => ys = wto s 441) (fun pre => ∃ k, k < 441 ∧ pre = wto s (k + 1) ∧ 0 < (s.ways k).ps.length) 441 w := fun l J Jx W hW _ _ hY h0 =>
  ways1_in n hn l Bs n₀ B p s J Jx hY W ((hW.cell (p := ⟨Bs, 0, none⟩) hBs).trans hc) hp (ha.new hW) h0
end Go.Proofs.Ytbclfiollfagmaa
