/- The walks of Leq and of the document's Leq. -/
import Derived.Test.YtmdjcpghghlpkaaVecOpen
namespace Go.Proofs.Ytmdjcpghghlpkaa
open Go.RowKit
set_option linter.unusedVariables false

namespace Vec
theorem leq_yes {a b : V} (he : a.ep = b.ep) (h : LeqTo 4 a b) : leq a b = true := by
  unfold leq; exact decide_eq_true ⟨he, h⟩
theorem leq_ep {a b : V} (he : a.ep ≠ b.ep) : leq a b = false := by
  unfold leq; exact decide_eq_false fun h => he h.1
/-- the document's flag behind k places -/
def leqB (k : Nat) (a b : V) : Bool := decide (a.ep = b.ep ∧ LeqTo k a b)
theorem leqB_zero (a b : V) : leqB 0 a b = decide (a.ep = b.ep) := by
  unfold leqB
  congr 1
  exact propext ⟨fun h => h.1, fun h => ⟨h, fun i hi => absurd hi (by omega)⟩⟩
theorem leqB_succ_out {k : Nat} {a b : V} (h : a.h k = false) : leqB (k + 1) a b = leqB k a b := by
  unfold leqB
  congr 1
  refine propext ⟨fun x => ⟨x.1, fun i hi hm => x.2 i (by omega) hm⟩, fun x => ⟨x.1, fun i hi hm => ?_⟩⟩
  by_cases e : i = k
  · subst e; rw [h] at hm; cases hm
  · exact x.2 i (by omega) hm
theorem leqB_succ_in {k : Nat} {a b : V} (h : a.h k = true) : leqB (k + 1) a b = (leqB k a b && b.h k && decide (a.t k ≤ b.t k)) := by
  unfold leqB
  rw [Bool.eq_iff_iff]
  simp only [decide_eq_true_eq, Bool.and_eq_true]
  constructor
  · rintro ⟨h1, h2⟩
    exact ⟨⟨⟨h1, fun i hi hm => h2 i (by omega) hm⟩, (h2 k (by omega) h).1⟩, (h2 k (by omega) h).2⟩
  · rintro ⟨⟨⟨h1, h2⟩, h3⟩, h4⟩
    refine ⟨h1, h2.succ fun _ => ⟨h3, h4⟩⟩
end Vec

set_option maxHeartbeats 1000000 in
theorem leq_any (a b : Vec.V) (w : World) :
    Calls Try.prog 20 #[Vec.val a, Vec.val b] w fun e w' => e = .returned (.bool (Vec.leq a b)) ∧ Below w.heap.size w w' := by
  show Calls Try.prog 20 #[.agg #[.int .i64 a.ep, .bool (a.h 0), .bool (a.h 1), .bool (a.h 2), .bool (a.h 3), .int .u64 (a.t 0), .int .u64 (a.t 1), .int .u64 (a.t 2), .int .u64 (a.t 3)],
    .agg #[.int .i64 b.ep, .bool (b.h 0), .bool (b.h 1), .bool (b.h 2), .bool (b.h 3), .int .u64 (b.t 0), .int .u64 (b.t 1), .int .u64 (b.t 2), .int .u64 (b.t 3)]] w _
  have HM := hide (((Mem.start w).new (t := 26) (cs := Vec.cells a) w.heap.size rfl).new (t := 26) (cs := Vec.cells b) (w.heap.size + 1) (by simp))
  by_cases he : a.ep = b.ep
  · have HE := hide he
    have fe : (a.ep != b.ep) = false := by simp [he]
    clear he
    go_enter Try.func20, Try.ntmps20
    go_wp2
    go_loopw [14] (fun i wr => ∃ k : Nat, k ≤ 4 ∧ i = .int .i64 k ∧ Vec.LeqTo k a b ∧ Mem w wr [(w.heap.size + 1, 26, Vec.cells b), (w.heap.size, 26, Vec.cells a)]) (fun i _ => 4 - (intOf i).toNat)
    case atStart => exact ⟨0, by omega, rfl, fun i hi => absurd hi (by omega), unhide HM⟩
    case round =>
      clear HM
      obtain ⟨k, hk, rfl, hle, hm⟩ := hrel
      have HM := hide hm
      have HL := hide hle
      clear hle
      by_cases hlt : k < 4
      · have hix' := Vec.index_has a.h k hlt
        have c1 := Vec.atH hm.blk0 hlt
        have c2 := Vec.atT hm.blk1 hlt
        have c3 := Vec.atT hm.blk0 hlt
        clear hm
        cases ha : a.h k with
        | false =>
          rw [ha] at hix'
          have HN : Hid (Vec.LeqTo (k + 1) a b) := (unhide HL).succ fun h => by rw [ha] at h; cases h
          clear ha
          go_wp2
          go_quiet (fail)
          go_wp2
          exact ⟨⟨k + 1, by omega, by go_num, unhide HN, (unhide HM).drewN _⟩, by simp [intOf]; omega⟩
        | true =>
          rw [ha] at hix'
          cases hb : b.h k with
          | false =>
            rw [hb] at c1
            have HN := hide (Vec.leq_no hlt ha (.inl hb))
            clear ha hb
            go_wp2
            go_quiet (fail)
            go_wp2
            go_ret
            exact ⟨by rw [unhide HN]; first | done | rfl, ((unhide HM).drewN _).below⟩
          | true =>
            rw [hb] at c1
            by_cases ht : b.t k < a.t k
            · have HN := hide (Vec.leq_no hlt ha (.inr ht))
              clear ha hb
              go_wp2
              go_quiet (fail)
              go_wp2
              go_ret
              exact ⟨by rw [unhide HN]; first | done | rfl, ((unhide HM).drewN _).below⟩
            · have fd : decide (b.t k < a.t k) = false := decide_eq_false ht
              have HN : Hid (Vec.LeqTo (k + 1) a b) := (unhide HL).succ fun h => ⟨hb, by omega⟩
              clear ha hb ht
              go_wp2
              go_quiet (fail)
              go_wp2
              exact ⟨⟨k + 1, by omega, by go_num, unhide HN, (unhide HM).drewN _⟩, by simp [intOf]; omega⟩
      · obtain rfl : k = 4 := by omega
        have HN := hide (Vec.leq_yes (unhide HE) (unhide HL))
        clear hm
        go_wp2
        go_ret
        exact ⟨by rw [unhide HN]; first | done | rfl, (unhide HM).below⟩
  · have HN := hide (Vec.leq_ep he)
    have fe : (a.ep != b.ep) = true := by simp [he]
    clear he
    go_enter Try.func20, Try.ntmps20
    go_wp2
    go_ret
    exact ⟨by rw [unhide HN]; first | done | rfl, (unhide HM).below⟩

set_option maxHeartbeats 1000000 in
theorem refLeq_any (a b : Vec.V) (w : World) :
    Calls Try.prog 21 #[Vec.val a, Vec.val b] w fun e w' => e = .returned (.bool (Vec.leq a b)) ∧ Below w.heap.size w w' := by
  show Calls Try.prog 21 #[.agg #[.int .i64 a.ep, .bool (a.h 0), .bool (a.h 1), .bool (a.h 2), .bool (a.h 3), .int .u64 (a.t 0), .int .u64 (a.t 1), .int .u64 (a.t 2), .int .u64 (a.t 3)],
    .agg #[.int .i64 b.ep, .bool (b.h 0), .bool (b.h 1), .bool (b.h 2), .bool (b.h 3), .int .u64 (b.t 0), .int .u64 (b.t 1), .int .u64 (b.t 2), .int .u64 (b.t 3)]] w _
  have HM := hide (((Mem.start w).new (t := 37) (cs := Vec.cells a) w.heap.size rfl).new (t := 37) (cs := Vec.cells b) (w.heap.size + 1) (by simp))
  have HZ := hide (Vec.leqB_zero a b)
  go_enter Try.func21, Try.ntmps21
  go_wp2
  go_loopw [5, 6] (fun s i wr => ∃ k : Nat, k ≤ 4 ∧ i = .int .i64 k ∧ s = .bool (Vec.leqB k a b) ∧ Mem w wr [(w.heap.size + 1, 37, Vec.cells b), (w.heap.size, 37, Vec.cells a)]) (fun _ i _ => 4 - (intOf i).toNat)
  case atStart => exact ⟨0, by omega, rfl, by rw [unhide HZ]; first | rfl | exact congrArg Value.bool (by rw [Bool.eq_iff_iff]; simp), unhide HM⟩
  case round =>
    clear HM HZ
    obtain ⟨k, hk, rfl, rfl, hm⟩ := hrel
    have HM := hide hm
    by_cases hlt : k < 4
    · have c0 := Vec.atH hm.blk1 hlt
      have c1 := Vec.atH hm.blk0 hlt
      have c2 := Vec.atT hm.blk1 hlt
      have c3 := Vec.atT hm.blk0 hlt
      clear hm
      cases ha : a.h k with
      | false =>
        rw [ha] at c0
        have HN := hide (Vec.leqB_succ_out (b := b) ha)
        clear ha
        go_wp2
        exact ⟨⟨k + 1, by omega, by go_num, by rw [unhide HN], unhide HM⟩, by simp [intOf]; omega⟩
      | true =>
        rw [ha] at c0
        have HN := hide (Vec.leqB_succ_in (b := b) ha)
        clear ha
        generalize Vec.leqB k a b = f at HN ⊢
        cases f with
        | false =>
          go_wp2
          go_quiet (fail)
          go_wp2
          exact ⟨⟨k + 1, by omega, by go_num, by rw [unhide HN]; rfl, (unhide HM).drewN _⟩, by simp [intOf]; omega⟩
        | true =>
          cases hb : b.h k with
          | false =>
            rw [hb] at c1 HN
            go_wp2
            go_quiet (fail)
            go_wp2
            exact ⟨⟨k + 1, by omega, by go_num, by rw [unhide HN]; rfl, (unhide HM).drewN _⟩, by simp [intOf]; omega⟩
          | true =>
            rw [hb] at c1 HN
            by_cases ht : a.t k ≤ b.t k
            · rw [decide_eq_true ht] at HN
              go_wp2
              go_quiet (fail)
              go_wp2
              exact ⟨⟨k + 1, by omega, by go_num, by rw [unhide HN]; rfl, (unhide HM).drewN _⟩, by simp [intOf]; omega⟩
            · rw [decide_eq_false ht] at HN
              have fd : decide (a.t k ≤ b.t k) = false := decide_eq_false ht
              clear ht
              go_wp2
              go_quiet (fail)
              go_wp2
              exact ⟨⟨k + 1, by omega, by go_num, by rw [unhide HN]; rfl, (unhide HM).drewN _⟩, by simp [intOf]; omega⟩
    · obtain rfl : k = 4 := by omega
      clear hm
      go_wp2
      go_ret
      exact ⟨rfl, (unhide HM).below⟩
end Go.Proofs.Ytmdjcpghghlpkaa
