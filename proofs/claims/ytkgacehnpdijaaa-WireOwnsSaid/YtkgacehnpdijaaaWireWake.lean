/- Modes and versions: Agree, Takes, of wire and of the document. wire.Check and what the wake of wire's statements takes. wire.newer and Encode, of the wake's message; the wake. Encode of the wake's message, the wake, and the walk of WireAgrees. -/
import Derived.Test.YtkgacehnpdijaaaWireNum
import Derived.WalkKit
import Derived.Test.YtkgacehnpdijaaaKnown
import Derived.Deep.RegionHeld3
namespace Go.Proofs.Ytkgacehnpdijaaa
set_option linter.unusedVariables false
set_option linter.unusedSimpArgs false
open Go.RowKit

def agreeOf (a b : Int) : Int := if (decide (a < 1) || decide (3 < a) || decide (b < 1) || decide (3 < b)) = true then 0 else if (a != 1 && b != 1) = true then 2 else if (a != 3 && b != 3) = true then 1 else 0
def takesOf (m v : Int) : Bool := ((m == 1 || m == 2) && v == 1) || ((m == 3 || m == 2) && v == 2)
def Tests (a : Int) (lo hi : Bool) : Prop := decide (a < 1) = lo ∧ decide (3 < a) = hi ∧ (a == 1) = false ∧ (a == 2) = false ∧ (a == 3) = false ∧ (a != 1) = true ∧ (a != 2) = true ∧ (a != 3) = true ∧ decide (2 ≤ a) = hi ∧ decide (a ≤ 2) = lo
theorem modes (a : Int) : Tests a true false ∨ a = 1 ∨ a = 2 ∨ a = 3 ∨ Tests a false true := by
  have h : a < 1 ∨ a = 1 ∨ a = 2 ∨ a = 3 ∨ 3 < a := by omega
  rcases h with h | h | h | h | h
  · refine .inl ⟨decide_eq_true h, decide_eq_false (by omega), beq_eq_false_iff_ne.2 (by omega), beq_eq_false_iff_ne.2 (by omega), beq_eq_false_iff_ne.2 (by omega), ?_, ?_, ?_, decide_eq_false (by omega), decide_eq_true (by omega)⟩ <;> (simp; omega)
  · exact .inr (.inl h)
  · exact .inr (.inr (.inl h))
  · exact .inr (.inr (.inr (.inl h)))
  · refine .inr (.inr (.inr (.inr ⟨decide_eq_false (by omega), decide_eq_true h, beq_eq_false_iff_ne.2 (by omega), beq_eq_false_iff_ne.2 (by omega), beq_eq_false_iff_ne.2 (by omega), ?_, ?_, ?_, decide_eq_true (by omega), decide_eq_false (by omega)⟩))) <;> (simp; omega)
set_option maxHeartbeats 4000000 in
theorem agree_any (a b : Int) (w : World) : Calls Try.prog 20 #[.int .i64 a, .int .i64 b] w fun e w' => e = .returned (.int .i64 (agreeOf a b)) ∧ w = w' := by
  rcases modes a with fa | rfl | rfl | rfl | fa
  all_goals rcases modes b with fb | rfl | rfl | rfl | fb
  all_goals
    try unfold Tests at fa
    try unfold Tests at fb
    go_enter Try.func20,Try.ntmps20
    go_wp2_with fail
    go_ret
    exact ⟨by simp [agreeOf, *], rfl⟩
set_option maxHeartbeats 4000000 in
theorem ragree_any (a b : Int) (w : World) : Calls Try.prog 21 #[.int .i64 a, .int .i64 b] w fun e w' => e = .returned (.int .i64 (agreeOf a b)) ∧ w = w' := by
  rcases modes a with fa | rfl | rfl | rfl | fa
  all_goals rcases modes b with fb | rfl | rfl | rfl | fb
  all_goals
    try unfold Tests at fa
    try unfold Tests at fb
    go_enter Try.func21,Try.ntmps21
    go_wp2_with fail
    go_ret
    exact ⟨by simp [agreeOf, *], rfl⟩
set_option maxHeartbeats 4000000 in
theorem takes_any (a b : Int) (w : World) : Calls Try.prog 22 #[.int .i64 a, .int .i64 b] w fun e w' => e = .returned (.bool (takesOf a b)) ∧ w = w' := by
  rcases modes a with fa | rfl | rfl | rfl | fa
  all_goals rcases modes b with fb | rfl | rfl | rfl | fb
  all_goals
    try unfold Tests at fa
    try unfold Tests at fb
    go_enter Try.func22,Try.ntmps22
    go_wp2_with fail
    go_ret
    exact ⟨by simp [takesOf, *], rfl⟩
set_option maxHeartbeats 4000000 in
theorem rtakes_any (a b : Int) (w : World) : Calls Try.prog 23 #[.int .i64 a, .int .i64 b] w fun e w' => e = .returned (.bool (takesOf a b)) ∧ w = w' := by
  by_cases hab : a = b
  · subst hab
    have g : (a == a) = true := beq_self_eq_true a
    rcases modes a with fa | rfl | rfl | rfl | fa
    all_goals
      try unfold Tests at fa
      go_enter Try.func23, Try.ntmps23
      go_wp2_with fail
      go_ret
      exact ⟨by simp [takesOf, *], rfl⟩
  · have g : (a == b) = false := beq_eq_false_iff_ne.2 hab
    rcases modes a with fa | rfl | rfl | rfl | fa
    all_goals rcases modes b with fb | rfl | rfl | rfl | fb
    all_goals first | exact absurd rfl hab | skip
    all_goals
      try unfold Tests at fa
      try unfold Tests at fb
      go_enter Try.func23, Try.ntmps23
      go_wp2_with fail
      go_ret
      exact ⟨by simp [takesOf, *], rfl⟩
theorem agreeOf_comm (a b : Int) : agreeOf a b = agreeOf b a := by
  rcases modes a with fa | rfl | rfl | rfl | fa
  all_goals rcases modes b with fb | rfl | rfl | rfl | fb
  all_goals
    try unfold Tests at fa
    try unfold Tests at fb
    simp [agreeOf, *]
/-- the law: where they agree both take it; where they don't none is that both take -/
theorem agreeOf_law (a b v : Int) : (agreeOf a b == 0 && !(takesOf a v && takesOf b v)) = true ∨ ((agreeOf a b == 0) = false ∧ takesOf a (agreeOf a b) = true ∧ takesOf b (agreeOf a b) = true) := by
  rcases modes v with fv | rfl | rfl | rfl | fv
  all_goals rcases modes a with fa | rfl | rfl | rfl | fa
  all_goals rcases modes b with fb | rfl | rfl | rfl | fb
  all_goals
    try unfold Tests at fa
    try unfold Tests at fb
    try unfold Tests at fv
    simp [agreeOf, takesOf, *]
end Go.Proofs.Ytkgacehnpdijaaa
namespace Go.Proofs.Ytkgacehnpdijaaa
set_option linter.unusedVariables false
open Go.RowKit

abbrev eS : Value := .string ⟨#[]⟩
abbrev cmd0 : Array Value := #[.int .i64 0, .int .i64 0, .int .i64 0, .int .i64 0, .int .i64 0, eS]
abbrev msg5 : Array Value := #[.int .i64 12, .int .u64 5, .int .u64 0, .int .u64 0, eS, eS, .slice none 0 0, .slice none 0 0, .int .i64 0, .int .i64 0, .int .i64 0, .int .i64 0, .int .i64 0, eS]
theorem msgAt {w : World} {g : Nat} {ty : TypeId} (h : Blk w g ty msg5) :
    w.cell? ⟨g, 0, none⟩ = some (.int .i64 12) ∧ w.cell? ⟨g, 1, none⟩ = some (.int .u64 5) ∧ w.cell? ⟨g, 2, none⟩ = some (.int .u64 0) ∧ w.cell? ⟨g, 3, none⟩ = some (.int .u64 0) ∧ w.cell? ⟨g, 4, none⟩ = some eS ∧ w.cell? ⟨g, 5, none⟩ = some eS ∧ w.cell? ⟨g, 6, none⟩ = some (.slice none 0 0) ∧ w.cell? ⟨g, 7, none⟩ = some (.slice none 0 0) ∧
    w.cell? ⟨g, 8, none⟩ = some (.int .i64 0) ∧ w.cell? ⟨g, 9, none⟩ = some (.int .i64 0) ∧ w.cell? ⟨g, 10, none⟩ = some (.int .i64 0) ∧ w.cell? ⟨g, 11, none⟩ = some (.int .i64 0) ∧ w.cell? ⟨g, 12, none⟩ = some (.int .i64 0) ∧ w.cell? ⟨g, 13, none⟩ = some eS :=
  ⟨h.cell 0, h.cell 1, h.cell 2, h.cell 3, h.cell 4, h.cell 5, h.cell 6, h.cell 7, h.cell 8, h.cell 9, h.cell 10, h.cell 11, h.cell 12, h.cell 13⟩
theorem bit_any (b : Bool) (w : World) : Calls Try.prog 48 #[.bool b] w fun e w' => e = .returned (.int .u64 (if b then 1 else 0)) ∧ w = w' := by
  cases b
  all_goals
    go_enter Try.func48, Try.ntmps48
    go_wp2_with fail
    go_ret
    exact ⟨rfl, rfl⟩
set_option maxHeartbeats 1000000 in
theorem numbers_done (w : World) : Calls Try.prog 33 #[.agg cmd0] w fun e w' => e = .returned (.agg #[.int .i64 0, .int .i64 0, .int .i64 0, .int .i64 0, .int .i64 0]) ∧ Below w.heap.size w w' := by
  have HM0 := hide (((Mem.start w).new (t := 26) (cs := cmd0) w.heap.size rfl).new (t := 54) (cs := #[.int .i64 0, .int .i64 0, .int .i64 0, .int .i64 0, .int .i64 0]) (w.heap.size + 1) (by simp))
  show Calls _ _ #[.agg #[.int .i64 0, .int .i64 0, .int .i64 0, .int .i64 0, .int .i64 0, eS]] _ _
  go_enter Try.func33, Try.ntmps33
  go_wp2_with fail
  exact bodyPost_ret (results_cell_row rfl _ _ (w.heap.size + 1) 54 _ (0, 0) _ rfl (unhide HM0).blk0 Try.underlying54 rfl (by kernel_rfl)) rfl ⟨rfl, (unhide HM0).below⟩
set_option maxHeartbeats 1000000 in
set_option maxRecDepth 20000 in
theorem check_done (w : World) : Calls Try.prog 17 #[.agg msg5] w fun e w' => e = .returned (.int .i64 0) ∧ Below w.heap.size w w' := by
  have HM0 := hide ((Mem.start w).new (t := 28) (cs := msg5) w.heap.size rfl)
  obtain ⟨w1, hw1⟩ : ∃ u, w.alloc (.cells msg5 28) = u := ⟨_, rfl⟩
  rw [hw1] at HM0
  have fm := msgAt (unhide HM0).blk0
  have HN := hide (fun u => numbers_done u)
  show Calls _ _ #[.agg #[.int .i64 12, .int .u64 5, .int .u64 0, .int .u64 0, eS, eS, .slice none 0 0, .slice none 0 0, .int .i64 0, .int .i64 0, .int .i64 0, .int .i64 0, .int .i64 0, eS]] _ _
  go_enter Try.func17, Try.ntmps17
  go_wp2_with fail
  go_loopw [35] (fun i wr => i = .int .i64 0 ∧ w1 = wr) (fun i _ => 0)
  case atStart => exact ⟨rfl, rfl⟩
  case round =>
    obtain ⟨rfl, rfl⟩ := hrel
    go_wp2_with (go_at_call 33; refine (unhide HN _).mono ?_; rintro _ w2 ⟨rfl, hb2⟩; have HM2 := hide ((unhide HM0).called hb2); have fm2 := msgAt (unhide HM2).blk0; clear hb2)
    have hi0 : (Instr.index 54 (.agg #[.int .i64 0, .int .i64 0, .int .i64 0, .int .i64 0, .int .i64 0]) (.int .i64 0)).run Try.prog w2 = .ok (.int .i64 0) w2 := by kernel_rfl
    have hi1 : (Instr.index 54 (.agg #[.int .i64 0, .int .i64 0, .int .i64 0, .int .i64 0, .int .i64 0]) (.int .i64 1)).run Try.prog w2 = .ok (.int .i64 0) w2 := by kernel_rfl
    have hi2 : (Instr.index 54 (.agg #[.int .i64 0, .int .i64 0, .int .i64 0, .int .i64 0, .int .i64 0]) (.int .i64 2)).run Try.prog w2 = .ok (.int .i64 0) w2 := by kernel_rfl
    have hi3 : (Instr.index 54 (.agg #[.int .i64 0, .int .i64 0, .int .i64 0, .int .i64 0, .int .i64 0]) (.int .i64 3)).run Try.prog w2 = .ok (.int .i64 0) w2 := by kernel_rfl
    have hi4 : (Instr.index 54 (.agg #[.int .i64 0, .int .i64 0, .int .i64 0, .int .i64 0, .int .i64 0]) (.int .i64 4)).run Try.prog w2 = .ok (.int .i64 0) w2 := by kernel_rfl
    go_loopw [52] (fun i wr => ∃ k : Nat, k ≤ 5 ∧ i = .int .i64 k ∧ w2 = wr) (fun i _ => 5 - (intOf i).toNat)
    case atStart => exact ⟨0, by omega, rfl, rfl⟩
    case round =>
      obtain ⟨k, hk, rfl, rfl⟩ := hrel
      by_cases h5 : k = 5
      · subst h5
        go_wp2_with fail
        go_ret
        exact ⟨rfl, (unhide HM2).below⟩
      · obtain rfl | rfl | rfl | rfl | rfl : k = 0 ∨ k = 1 ∨ k = 2 ∨ k = 3 ∨ k = 4 := by omega
        all_goals
          go_wp2_with fail
          go_roundw
        all_goals first | exact ⟨1, by omega, rfl, by first | rfl | trivial⟩ | exact ⟨2, by omega, rfl, by first | rfl | trivial⟩ | exact ⟨3, by omega, rfl, by first | rfl | trivial⟩ | exact ⟨4, by omega, rfl, by first | rfl | trivial⟩ | exact ⟨5, by omega, rfl, by first | rfl | trivial⟩ | (simp [intOf])
end Go.Proofs.Ytkgacehnpdijaaa
namespace Go.Proofs.Ytkgacehnpdijaaa
set_option linter.unusedVariables false
open Go.RowKit

set_option maxHeartbeats 1000000 in
theorem put_one (xs ys : List UInt8) (A A2 : Option Addr) (c c2 gp base B2 : Nat) (w : World) (ho : w.ownsRow base 5 1 (.slice A xs.length c) xs.length (xs.map Bv)) (hc : w.cell? ⟨gp, 0, none⟩ = some (.slice A2 ys.length c2)) (hr : RdB w B2 A2 ys) (hb : base ≤ w.heap.size) (hx : xs.length ≤ 10000) (hy : ys.length ≤ 10000) :
    Calls Try.prog 45 #[.slice A xs.length c, .slice (some ⟨gp, 0, none⟩) 1 1] w fun e w' => ∃ A' c', e = .returned (.slice A' (xs.length + ys.length) c') ∧ w'.ownsRow base 5 1 (.slice A' (xs.length + ys.length) c') (xs.length + ys.length) ((xs ++ ys).map Bv) ∧ w.grownBy w' (Value.slice A xs.length c).ownBlock := by
  obtain ⟨i0, hi, hz0, hz1, hz2⟩ := info_parts u8info
  have HO := hide ho; have HR := hide hr
  clear ho hr
  go_enter Try.func45, Try.ntmps45
  go_wp2_with fail
  go_loopw [0, 9] (fun b i wr => (i = .int .i64 0 ∧ b = .slice A xs.length c ∧ w = wr) ∨ (i = .int .i64 1 ∧ ∃ A' c', b = .slice A' (xs.length + ys.length) c' ∧ wr.ownsRow base 5 1 (.slice A' (xs.length + ys.length) c') (xs.length + ys.length) ((xs ++ ys).map Bv) ∧ w.grownBy wr (Value.slice A xs.length c).ownBlock)) (fun _ i _ => 1 - (intOf i).toNat)
  case atStart => exact .inl ⟨rfl, rfl, rfl⟩
  case round =>
    rcases hrel with ⟨rfl, rfl, rfl⟩ | ⟨rfl, A', c', rfl, ho', hb'⟩
    · go_wp2_with (
        at_builtin
        refine wpList_append_any _ rfl (.tmp 13) (.tmp 14) _ rfl base 5 i0 _ 1 1 Try.underlying31 hi hz0 hz1 hz2 rfl (by omega) _ xs.length _ rfl
          (unhide HO) _ A2 ys.length c2 _ rfl (unhide HR).v (by simp) oneCell_Bv (by simp only [maxLen]; omega) (by omega) hb ?_
        intro A4 c4 w4 hown4 hg4 hat4 hbel4 hcc4
        have HO4 := hide hown4; have HB4 := hide hg4; clear hown4 hg4 hat4 hbel4)
      go_roundw
      case rel => exact .inr ⟨by go_num, A4, c4, rfl, by rw [List.map_append]; exact unhide HO4, unhide HB4⟩
      case measure => simp [intOf]
    · have HO' := hide ho'; have HB' := hide hb'
      clear ho' hb'
      go_wp2_with fail
      go_ret
      exact ⟨A', c', rfl, unhide HO', unhide HB'⟩
theorem hasAt {w : World} {g : Nat} {ty : TypeId} (h : Blk w g ty #[.bool true, .bool false, .bool false, .bool false, .bool false, .bool false, .bool false, .bool false]) :
    w.cell? ⟨g, 0, none⟩ = some (.bool true) ∧ w.cell? ⟨g, 1, none⟩ = some (.bool false) ∧ w.cell? ⟨g, 2, none⟩ = some (.bool false) ∧ w.cell? ⟨g, 3, none⟩ = some (.bool false) ∧ w.cell? ⟨g, 4, none⟩ = some (.bool false) ∧ w.cell? ⟨g, 5, none⟩ = some (.bool false) ∧ w.cell? ⟨g, 6, none⟩ = some (.bool false) ∧ w.cell? ⟨g, 7, none⟩ = some (.bool false) :=
  ⟨h.cell 0, h.cell 1, h.cell 2, h.cell 3, h.cell 4, h.cell 5, h.cell 6, h.cell 7⟩
set_option maxHeartbeats 4000000 in
set_option maxRecDepth 20000 in
theorem newer_done (w : World) : Calls Try.prog 29 #[.agg msg5] w (FreshB w [12, 1, 5]) := by
  have HM0 := hide ((Mem.start w).new (t := 28) (cs := msg5) w.heap.size rfl)
  obtain ⟨w1, hw1⟩ : ∃ u, w.alloc (.cells msg5 28) = u := ⟨_, rfl⟩
  rw [hw1] at HM0
  have fm := msgAt (unhide HM0).blk0
  have fmd := msgAt (unhide HM0).blk0.drew
  have heq : ∀ u : World, (Op.equalIn 10000 26 (.agg #[.int .i64 0, .int .i64 0, .int .i64 0, .int .i64 0, .int .i64 0, .string ⟨#[]⟩]) (.agg #[.int .i64 0, .int .i64 0, .int .i64 0, .int .i64 0, .int .i64 0, .string ⟨#[]⟩])).run Try.prog u = .ok true u := fun u => by kernel_rfl
  show Calls _ _ #[.agg #[.int .i64 12, .int .u64 5, .int .u64 0, .int .u64 0, .string ⟨#[]⟩, .string ⟨#[]⟩, .slice none 0 0, .slice none 0 0, .int .i64 0, .int .i64 0, .int .i64 0, .int .i64 0, .int .i64 0, .string ⟨#[]⟩]] _ _
  go_enter Try.func29, Try.ntmps29
  go_upto_region 1 with fail
  have fS := fmd.2
  go_region_held3 (fun u => u.cell? ⟨w.heap.size, 1, none⟩ = some (.int .u64 5) ∧ u.cell? ⟨w.heap.size, 2, none⟩ = some (.int .u64 0) ∧ u.cell? ⟨w.heap.size, 3, none⟩ = some (.int .u64 0) ∧ u.cell? ⟨w.heap.size, 4, none⟩ = some (.string ⟨#[]⟩) ∧ u.cell? ⟨w.heap.size, 5, none⟩ = some (.string ⟨#[]⟩) ∧ u.cell? ⟨w.heap.size, 6, none⟩ = some (.slice none 0 0) ∧ u.cell? ⟨w.heap.size, 7, none⟩ = some (.slice none 0 0) ∧ u.cell? ⟨w.heap.size, 8, none⟩ = some (.int .i64 0) ∧ u.cell? ⟨w.heap.size, 9, none⟩ = some (.int .i64 0) ∧ u.cell? ⟨w.heap.size, 10, none⟩ = some (.int .i64 0) ∧ u.cell? ⟨w.heap.size, 11, none⟩ = some (.int .i64 0) ∧ u.cell? ⟨w.heap.size, 12, none⟩ = some (.int .i64 0) ∧ u.cell? ⟨w.heap.size, 13, none⟩ = some (.string ⟨#[]⟩)) (first | assumption | exact fS | go_keep) (fail)
  all_goals
    have HM2 := hide (((unhide HM0).new (t := 75) (cs := #[.bool true, .bool false, .bool false, .bool false, .bool false, .bool false, .bool false, .bool false]) w1.heap.size rfl).drew)
    obtain ⟨w2, hw2⟩ : ∃ u, (w1.alloc (.cells #[.bool true, .bool false, .bool false, .bool false, .bool false, .bool false, .bool false, .bool false] 75)).drew = u := ⟨_, rfl⟩
    rw [hw2] at HM2
    rw [hw2]
    clear fm fmd fS hw2 heq
    go_wp2_with (refine wpList_load_blk rfl 75 (.tmp 3) rfl (w1.heap.size) rfl 75 _ _ ((unhide HM2).blk0) Try.underlying75 rfl (by kernel_rfl) ?_)
    have hi0 : (Instr.index 75 (.agg #[.bool true, .bool false, .bool false, .bool false, .bool false, .bool false, .bool false, .bool false]) (.int .i64 0)).run Try.prog w2 = .ok (.bool true) w2 := by kernel_rfl
    have hi1 : (Instr.index 75 (.agg #[.bool true, .bool false, .bool false, .bool false, .bool false, .bool false, .bool false, .bool false]) (.int .i64 1)).run Try.prog w2 = .ok (.bool false) w2 := by kernel_rfl
    have hi2 : (Instr.index 75 (.agg #[.bool true, .bool false, .bool false, .bool false, .bool false, .bool false, .bool false, .bool false]) (.int .i64 2)).run Try.prog w2 = .ok (.bool false) w2 := by kernel_rfl
    have hi3 : (Instr.index 75 (.agg #[.bool true, .bool false, .bool false, .bool false, .bool false, .bool false, .bool false, .bool false]) (.int .i64 3)).run Try.prog w2 = .ok (.bool false) w2 := by kernel_rfl
    have hi4 : (Instr.index 75 (.agg #[.bool true, .bool false, .bool false, .bool false, .bool false, .bool false, .bool false, .bool false]) (.int .i64 4)).run Try.prog w2 = .ok (.bool false) w2 := by kernel_rfl
    have hi5 : (Instr.index 75 (.agg #[.bool true, .bool false, .bool false, .bool false, .bool false, .bool false, .bool false, .bool false]) (.int .i64 5)).run Try.prog w2 = .ok (.bool false) w2 := by kernel_rfl
    have hi6 : (Instr.index 75 (.agg #[.bool true, .bool false, .bool false, .bool false, .bool false, .bool false, .bool false, .bool false]) (.int .i64 6)).run Try.prog w2 = .ok (.bool false) w2 := by kernel_rfl
    have hi7 : (Instr.index 75 (.agg #[.bool true, .bool false, .bool false, .bool false, .bool false, .bool false, .bool false, .bool false]) (.int .i64 7)).run Try.prog w2 = .ok (.bool false) w2 := by kernel_rfl
    go_loopw [4, 48] (fun m i wr => ∃ k : Nat, k ≤ 8 ∧ i = .int .i64 k ∧ m = .int .u8 (if k = 0 then 0 else 1) ∧ w2 = wr) (fun _ i _ => 8 - (intOf i).toNat)
    case atStart => exact ⟨0, by omega, rfl, rfl, rfl⟩
    case round =>
      obtain ⟨k, hk, rfl, rfl, rfl⟩ := hrel
      by_cases h8 : k = 8
      · subst h8
        rw [show ((8:Nat):Int) = 8 from rfl]
        have fm2 := msgAt (unhide HM2).blk1
        have hsz2 := (unhide HM2).size
        have hb0 := (unhide HM2).blk0.lt
        have hb1 := (unhide HM2).blk1.lt
        clear hi0 hi1 hi2 hi3 hi4 hi5 hi6 hi7
        go_wp2_with fail
        obtain ⟨w3, hw3⟩ : ∃ u, w2.alloc (.cells #[.int .u8 12, .int .u8 1] 5) = u := ⟨_, rfl⟩
        have HM3 := hide ((unhide HM2).other (.cells #[.int .u8 12, .int .u8 1] 5))
        have HO3 : Hid ((w2.alloc (.cells #[.int .u8 12, .int .u8 1] 5)).ownsRow w.heap.size 5 1 (.slice (some ⟨w2.heap.size, 0, none⟩) 2 2) 2 (([12, 1] : List UInt8).map Bv)) := hide (own_new w2 w.heap.size #[.int .u8 12, .int .u8 1] 5 2 _ hsz2 (by simp [maxLen]) rfl rfl)
        rw [hw3] at HM3 HO3
        rw [hw3]
        clear hw3 fm2
        go_loopw [7, 72] (fun b i wr => ∃ (k : Nat) (A : Option Addr) (c : Nat) (l : List UInt8), k ≤ 3 ∧ i = .int .i64 k ∧ b = .slice A l.length c ∧ l = (if k = 0 then [12, 1] else [12, 1, 5]) ∧ (k = 0 → A = some ⟨w2.heap.size, 0, none⟩) ∧ wr.ownsRow w.heap.size 5 1 (.slice A l.length c) l.length (l.map Bv) ∧ Mem w wr [(w1.heap.size, 75, #[.bool true, .bool false, .bool false, .bool false, .bool false, .bool false, .bool false, .bool false]), (w.heap.size, 28, msg5)]) (fun _ i _ => 3 - (intOf i).toNat)
        case atStart => exact ⟨0, _, 2, [12, 1], by omega, rfl, rfl, rfl, fun _ => rfl, unhide HO3, unhide HM3⟩
        case round =>
          obtain ⟨k, A, c, l, hk, rfl, rfl, hl, hA, hown, hm⟩ := hrel
          have HO := hide hown; have HMr := hide hm
          have fh := hasAt hm.blk0
          clear hown hm HO3 HM3
          have hi0 : (Instr.index 76 (.agg #[.int .u64 5, .int .u64 0, .int .u64 0]) (.int .i64 0)).run Try.prog wr = .ok (.int .u64 5) wr := by kernel_rfl
          have hi1 : (Instr.index 76 (.agg #[.int .u64 5, .int .u64 0, .int .u64 0]) (.int .i64 1)).run Try.prog wr = .ok (.int .u64 0) wr := by kernel_rfl
          have hi2 : (Instr.index 76 (.agg #[.int .u64 5, .int .u64 0, .int .u64 0]) (.int .i64 2)).run Try.prog wr = .ok (.int .u64 0) wr := by kernel_rfl
          by_cases h3 : k = 3
          · subst h3
            have hl2 : l = [12, 1, 5] := hl
            clear hl hA
            subst hl2
            have fmr := msgAt (unhide HMr).blk1
            obtain ⟨wo, hwo⟩ : ∃ u : World, u = wr := ⟨_, rfl⟩
            subst hwo
            clear hi0 hi1 hi2
            go_wp2_with fail
            have hj0 : (Instr.index 78 (.agg #[.string ⟨#[]⟩, .string ⟨#[]⟩]) (.int .i64 0)).run Try.prog wo = .ok (.string ⟨#[]⟩) wo := by kernel_rfl
            have hj1 : (Instr.index 78 (.agg #[.string ⟨#[]⟩, .string ⟨#[]⟩]) (.int .i64 1)).run Try.prog wo = .ok (.string ⟨#[]⟩) wo := by kernel_rfl
            go_loopw [7, 90] (fun b i wr => ∃ k : Nat, k ≤ 2 ∧ i = .int .i64 k ∧ b = .slice A 3 c ∧ wo = wr) (fun _ i _ => 2 - (intOf i).toNat)
            case atStart => exact ⟨0, by omega, rfl, rfl, rfl⟩
            case round =>
              obtain ⟨j, hj, rfl, rfl, rfl⟩ := hrel
              by_cases h2 : j = 2
              · subst h2
                go_wp2_with fail
                go_ret
                obtain ⟨A', c', e1, e2, _⟩ := own_form (unhide HO)
                exact ⟨A, c, rfl, unhide HO, (unhide HMr).below, by
                  injection e1 with _ _ e3
                  have e2 : 3 ≤ c' := e2
                  show 3 ≤ c
                  omega⟩
              · obtain rfl | rfl : j = 0 ∨ j = 1 := by omega
                all_goals
                  go_wp2_with fail
                  go_roundw
                all_goals first | exact ⟨1, by omega, rfl, rfl, by first | rfl | trivial⟩ | exact ⟨2, by omega, rfl, rfl, by first | rfl | trivial⟩ | (simp [intOf]; done)
          · by_cases h0 : k = 0
            · subst h0
              have hl2 : l = [12, 1] := hl
              clear hl
              subst hl2
              obtain rfl := hA rfl
              have hu : Num.uv 5 = [5] := by decide +kernel
              have HU : Hid (Calls Try.prog 49 #[.int .u64 5] wr (FreshB wr [5])) := hide (by have h := uvar_any 5 wr (by omega); rw [hu] at h; exact h)
              clear hu hA
              go_wp2_with (first
                | (go_at_call 49; refine (unhide HU).mono ?_; rintro _ w4 ⟨A4, c4, rfl, ho4, hb4, hc4⟩
                   have hm4 := ((unhide HMr).called hb4).other (.cells #[.slice A4 1 c4] 31)
                   have HPUT := hide (put_one [12, 1] [5] (some ⟨w2.heap.size, 0, none⟩) A4 c c4 w4.heap.size w.heap.size w4.heap.size (w4.alloc (.cells #[.slice A4 1 c4] 31)) ((own_below (unhide HO) hb4 (fun g hg => ((unhide HO).lt g hg).2)).alloc _) ((Blk.new w4 _ _).cell 0) ((RdB.of_own ho4).alloc (Nat.le_refl _) _) hm4.size (by simp) (by simp))
                   have HM4 := hide hm4; clear ho4 hb4 hc4 hm4)
                | (go_at_call 45; refine (unhide HPUT).mono ?_; rintro _ w5 ⟨A5, c5, rfl, ho5, hg5⟩
                   have HO5 := hide ho5
                   have HM5 := hide ((unhide HM4).grownBy hg5 (fun g e => by have e : some w2.heap.size = some g := e; injection e with e; omega) (fun p hp e => by
                     have e : some p.1 = some w2.heap.size := e
                     injection e with e
                     simp only [List.mem_cons, List.not_mem_nil, or_false] at hp
                     rcases hp with rfl | rfl
                     · simp only at e; omega
                     · simp only at e; omega))
                   clear ho5 hg5))
              go_roundw
              case rel => exact ⟨1, A5, c5, [12, 1, 5], by omega, rfl, rfl, rfl, fun h => absurd h (by omega), unhide HO5, unhide HM5⟩
              case measure => simp [intOf]
            · have hl2 : l = [12, 1, 5] := by rw [hl, if_neg h0]
              clear hl hA
              subst hl2
              obtain rfl | rfl : k = 1 ∨ k = 2 := by omega
              · go_wp2_with fail
                go_roundw
                case rel => exact ⟨2, A, c, [12, 1, 5], by omega, rfl, rfl, rfl, fun h => absurd h (by omega), unhide HO, unhide HMr⟩
                case measure => simp [intOf]
              · go_wp2_with fail
                go_roundw
                case rel => exact ⟨3, A, c, [12, 1, 5], by omega, rfl, rfl, rfl, fun h => absurd h (by omega), unhide HO, unhide HMr⟩
                case measure => simp [intOf]
      · obtain rfl | rfl | rfl | rfl | rfl | rfl | rfl | rfl : k = 0 ∨ k = 1 ∨ k = 2 ∨ k = 3 ∨ k = 4 ∨ k = 5 ∨ k = 6 ∨ k = 7 := by omega
        all_goals
          go_wp2_with (go_at_call 48; refine (bit_any _ _).mono ?_; rintro _ w4 ⟨rfl, rfl⟩)
          go_roundw
        all_goals first | exact ⟨1, by omega, rfl, rfl, by first | rfl | trivial⟩ | exact ⟨2, by omega, rfl, rfl, by first | rfl | trivial⟩ | exact ⟨3, by omega, rfl, rfl, by first | rfl | trivial⟩ | exact ⟨4, by omega, rfl, rfl, by first | rfl | trivial⟩ | exact ⟨5, by omega, rfl, rfl, by first | rfl | trivial⟩ | exact ⟨6, by omega, rfl, rfl, by first | rfl | trivial⟩ | exact ⟨7, by omega, rfl, rfl, by first | rfl | trivial⟩ | exact ⟨8, by omega, rfl, rfl, by first | rfl | trivial⟩ | (simp [intOf]; done)
end Go.Proofs.Ytkgacehnpdijaaa
namespace Go.Proofs.Ytkgacehnpdijaaa
set_option linter.unusedVariables false
open Go.RowKit

set_option maxHeartbeats 1000000 in
set_option maxRecDepth 20000 in
theorem encode_done (w : World) : Calls Try.prog 14 #[.int .i64 2, .agg msg5] w fun e w' => ∃ A c, e = .returned (.tuple #[.slice A 3 c, .int .i64 0]) ∧ RdB w' w'.heap.size A [12, 1, 5] ∧ Below w.heap.size w w' := by
  have HM0 := hide ((Mem.start w).new (t := 28) (cs := msg5) w.heap.size rfl)
  show Calls _ _ #[.int .i64 2, .agg #[.int .i64 12, .int .u64 5, .int .u64 0, .int .u64 0, .string ⟨#[]⟩, .string ⟨#[]⟩, .slice none 0 0, .slice none 0 0, .int .i64 0, .int .i64 0, .int .i64 0, .int .i64 0, .int .i64 0, .string ⟨#[]⟩]] _ _
  go_enter Try.func14, Try.ntmps14
  go_wp2_with (first
    | refine wpList_load_blk rfl 28 (.tmp 3) rfl (w.heap.size) rfl 28 _ _ ((unhide HM0).blk0) Try.underlying28 rfl (by kernel_rfl) ?_
    | refine wpList_load_blk rfl 28 (.tmp 3) rfl (w.heap.size) rfl 28 _ _ ((unhide HM1).blk0) Try.underlying28 rfl (by kernel_rfl) ?_
    | (go_at_call 17; refine (check_done _).mono ?_; rintro _ w1 ⟨rfl, hb1⟩; have HM1 := hide ((unhide HM0).called hb1); clear hb1)
    | (go_at_call 29; refine (newer_done _).mono ?_; rintro _ w2 ⟨A, c, rfl, ho2, hb2, hc2⟩; have HM2 := hide ((unhide HM1).called hb2); have HR2 := hide (RdB.of_own ho2); clear ho2 hb2 hc2))
  go_ret2
  exact ⟨A, c, rfl, unhide HR2, (unhide HM2).below⟩
set_option maxHeartbeats 1000000 in
set_option maxRecDepth 20000 in
theorem awake_any (w : World) : Calls Try.prog 13 #[] w fun e w' => e = .returned (.bool true) ∧ Below w.heap.size w w' := by
  go_enter Try.func13, Try.ntmps13
  go_wp2_with (go_at_call 14; refine (encode_done _).mono ?_; rintro _ w1 ⟨A, c, rfl, hr1, hb1⟩
               have HB := hide hb1; clear hb1
               have es : (convert 31 9 (.slice A 3 c)).run Try.prog w1 = .ok (.string ⟨#[12, 1, 5]⟩) w1 := run_str (P := Try.prog) c hr1 Try.underlying31 Try.underlying5 Try.underlying9
               clear hr1)
  go_ret
  exact ⟨rfl, unhide HB⟩

set_option maxHeartbeats 4000000 in
set_option maxRecDepth 20000 in
theorem wireAgrees_any (a b v : Int) (w : World) : Calls Try.prog 5 #[.int .i64 a, .int .i64 b, .int .i64 v] w fun e w' => e = .returned (.bool true) ∧ Below w.heap.size w w' := by
  have HL := hide (agreeOf_law a b v)
  obtain ⟨g, hg⟩ : ∃ g, agreeOf a b = g := ⟨_, rfl⟩
  have hg2 : agreeOf b a = g := (agreeOf_comm b a).trans hg
  obtain ⟨t0, ht0⟩ : ∃ t, takesOf a v = t := ⟨_, rfl⟩
  obtain ⟨t1, ht1⟩ : ∃ t, takesOf b v = t := ⟨_, rfl⟩
  obtain ⟨p0, hp0⟩ : ∃ t, takesOf a g = t := ⟨_, rfl⟩
  obtain ⟨p1, hp1⟩ : ∃ t, takesOf b g = t := ⟨_, rfl⟩
  have hl := unhide HL
  rw [hg, ht0, ht1, hp0, hp1] at hl
  clear HL
  have HG := hide hg; have HG2 := hide hg2; have H0 := hide ht0; have H1 := hide ht1; have P0 := hide hp0; have P1 := hide hp1
  clear hg hg2 ht0 ht1 hp0 hp1
  have hgg : (g != g) = false := by simp
  rcases hl with hl | ⟨hl, rfl, rfl⟩
  · rw [Bool.and_eq_true] at hl
    obtain ⟨e0, et⟩ := hl
    have e1 : (g != 0) = false := by simp only [bne, e0]; rfl
    cases t0
    all_goals cases t1
    all_goals first | exact absurd et (by decide) | skip
    all_goals
      clear et
      go_enter Try.func5, Try.ntmps5
      go_wp2_with (first
        | (go_at_call 20; with_reducible refine (agree_any a b _).mono ?_; rintro _ _ ⟨rfl, rfl⟩; rw [unhide HG])
        | (go_at_call 21; with_reducible refine (ragree_any a b _).mono ?_; rintro _ _ ⟨rfl, rfl⟩; rw [unhide HG])
        | (go_at_call 20; with_reducible refine (agree_any b a _).mono ?_; rintro _ _ ⟨rfl, rfl⟩; rw [unhide HG2])
        | (go_at_call 22; with_reducible refine (takes_any a v _).mono ?_; rintro _ _ ⟨rfl, rfl⟩; rw [unhide H0])
        | (go_at_call 22; with_reducible refine (takes_any b v _).mono ?_; rintro _ _ ⟨rfl, rfl⟩; rw [unhide H1])
        | (go_at_call 23; with_reducible refine (rtakes_any a v _).mono ?_; rintro _ _ ⟨rfl, rfl⟩; rw [unhide H0])
        | (go_at_call 13; refine (awake_any _).mono ?_; rintro _ w1 ⟨rfl, hb1⟩; have HB := hide hb1; clear hb1))
      go_ret
      exact ⟨rfl, unhide HB⟩
  · have e1 : (g != 0) = true := by simp only [bne, hl]; rfl
    cases t0
    all_goals cases t1
    all_goals
      go_enter Try.func5, Try.ntmps5
      go_wp2_with (first
        | (go_at_call 20; with_reducible refine (agree_any a b _).mono ?_; rintro _ _ ⟨rfl, rfl⟩; rw [unhide HG])
        | (go_at_call 21; with_reducible refine (ragree_any a b _).mono ?_; rintro _ _ ⟨rfl, rfl⟩; rw [unhide HG])
        | (go_at_call 20; with_reducible refine (agree_any b a _).mono ?_; rintro _ _ ⟨rfl, rfl⟩; rw [unhide HG2])
        | (go_at_call 22; with_reducible refine (takes_any a v _).mono ?_; rintro _ _ ⟨rfl, rfl⟩; rw [unhide H0])
        | (go_at_call 22; with_reducible refine (takes_any b v _).mono ?_; rintro _ _ ⟨rfl, rfl⟩; rw [unhide H1])
        | (go_at_call 22; with_reducible refine (takes_any a g _).mono ?_; rintro _ _ ⟨rfl, rfl⟩; rw [unhide P0])
        | (go_at_call 22; with_reducible refine (takes_any b g _).mono ?_; rintro _ _ ⟨rfl, rfl⟩; rw [unhide P1])
        | (go_at_call 23; with_reducible refine (rtakes_any a v _).mono ?_; rintro _ _ ⟨rfl, rfl⟩; rw [unhide H0])
        | (go_at_call 13; refine (awake_any _).mono ?_; rintro _ w1 ⟨rfl, hb1⟩; have HB := hide hb1; clear hb1))
      go_ret
      exact ⟨rfl, unhide HB⟩
end Go.Proofs.Ytkgacehnpdijaaa
