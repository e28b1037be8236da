/- The walk of StabBelow. -/
import Derived.Test.YtmogoockhlfabaaStabLawA
import Derived.Test.YtmogoockhlfabaaStabMathB
namespace Go.Proofs.Ytmogoockhlfabaa
set_option linter.unusedVariables false
open Go.RowKit

theorem umod (x m : Int) (h0 : 0 < m) (hm : m < 9223372036854775807) : ∃ N : Nat, wrap64 ((IntKind.u64.wrap x).tmod m) = N ∧ (N : Int) < m := by
  have h := wrap_u64_nonneg x
  have e : (IntKind.u64.wrap x).tmod m = IntKind.u64.wrap x % m := Int.tmod_eq_emod_of_nonneg h
  have h1 := Int.emod_nonneg (IntKind.u64.wrap x) (show m ≠ 0 by omega)
  have h2 := Int.emod_lt_of_pos (IntKind.u64.wrap x) h0
  refine ⟨(IntKind.u64.wrap x % m).toNat, ?_, by omega⟩
  rw [e]
  unfold wrap64
  omega

set_option maxHeartbeats 16000000 in
set_option maxRecDepth 20000 in
theorem stabBelow_any (n0 who0 : Int) (has : Nat → Bool) (A : Option Addr) (c : Nat) (r : List Opr) (w : World) (hin : InOps w w.heap.size A r) (hc : r.length ≤ c) (hc2 : c ≤ 9223372036854775807) (ht0 : ∀ x ∈ r, 0 ≤ x.2.2.2) :
    Calls Try.prog 4 #[.int .i64 n0, .agg (Vec.hasCells has), .slice A r.length c, .int .i64 who0] w fun e w' => e = .returned (.bool true) ∧ Below w.heap.size w w' := by
  have HA := hide awake_any
  have HIN := hide hin
  have HT0 := hide ht0
  clear hin ht0
  obtain ⟨M, hM, hM3⟩ := umod who0 3 (by omega) (by omega)
  obtain ⟨N, hN, hN4⟩ := umod n0 4 (by omega) (by omega)
  have HM0 : Hid (Mem w (w.alloc (.cells #[.bool (has 0), .bool (has 1), .bool (has 2), .bool (has 3)] 22)) [(w.heap.size, 22, Vec.hasCells has)]) := hide ((Mem.start w).new w.heap.size rfl)
  have fh := hasAt (unhide HM0).blk0
  have fz := (unhide HM0).blk0.frozen 0
  show Calls Try.prog 4 #[.int .i64 n0, .agg #[.bool (has 0), .bool (has 1), .bool (has 2), .bool (has 3)], .slice A r.length c, .int .i64 who0] w _
  go_enter Try.func4, Try.ntmps4
  go_upto_region 3 with fail
  obtain ⟨w1, hw⟩ : ∃ u, w.alloc (.cells #[.bool true, .bool (has 1), .bool (has 2), .bool (has 3)] 22) = u := ⟨_, rfl⟩
  have HM1 : Hid (Mem w w1 [(w.heap.size, 22, Vec.hasCells (addH has 0 true))]) := hide (by rw [← hw]; exact (Mem.start w).new w.heap.size rfl)
  rw [hw]
  clear fh fz HM0 hw
  have fh1 : w1.cell? ⟨w.heap.size, 0, none⟩ = some (.bool true) ∧ w1.cell? ⟨w.heap.size, 1, none⟩ = some (.bool (has 1)) ∧ w1.cell? ⟨w.heap.size, 2, none⟩ = some (.bool (has 2)) ∧ w1.cell? ⟨w.heap.size, 3, none⟩ = some (.bool (has 3)) := hasAt (unhide HM1).blk0
  have HN : Hid (Calls Try.prog 6 #[.int .i64 0, .int .i64 ((N : Int) + 1), .agg #[.bool true, .bool (has 1), .bool (has 2), .bool (has 3)]] w1 fun e w' => ∃ p A c, e = .returned (.tuple #[.pointer (some ⟨p, 0, none⟩), .int .i64 0]) ∧ TabAt w' w1.heap.size p (newT 0 A (N + 1) c (addH has 0 true)) ∧ Below w1.heap.size w1 w') := hide (by
    have h := new_ok 0 (N + 1) (addH has 0 true) w1 (by omega) (by omega) (by omega) (by omega)
    rw [show ((N + 1 : Nat) : Int) = (N : Int) + 1 by omega] at h
    exact h)
  go_wp2_with (go_at_call 6; refine (unhide HN).mono ?_; rintro _ w2 ⟨p, A1, c1, rfl, ht2, hb2⟩
               have HT2 := hide ht2; have HB2 := hide ((unhide HM1).below.trans (hb2.mono (unhide HM1).size)); clear ht2 hb2)
  have hB : w.heap.size ≤ w1.heap.size := (unhide HM1).size
  generalize w1.heap.size = B at HT2 hB
  rw [show (M : Int) + 1 = ((M + 1 : Nat) : Int) by omega]
  have hw1 : 1 ≤ M + 1 := by omega
  have hw4 : M + 1 < 4 := by omega
  have HS2 : Hid (BCore (newT 0 A1 (N + 1) c1 (addH has 0 true)) (M + 1) 0 0 0) := hide ⟨rfl, rfl, rfl, Int.le_refl _, fun _ => Int.le_refl _, fun _ => .inl (Int.le_refl _)⟩
  generalize M + 1 = who at hw1 hw4 HS2 ⊢
  clear HN HM1 fh1 hM hN hM3 hN4
  go_loopw [11, 12, 13, 14] (fun u v j i wr => ∃ (k : Nat) (s : Tb) (told ahead jn : Int), k ≤ r.length ∧ k ≤ 150 ∧ i = .int .i64 k ∧ u = .int .u64 told ∧ v = .int .u64 ahead ∧ j = .int .i64 jn ∧ TabAt wr B p s ∧ BCore s who told ahead jn ∧ Below w.heap.size w wr) (fun _ _ _ i _ => r.length - (intOf i).toNat)
  case atStart => exact ⟨0, _, 0, 0, 0, by omega, by omega, rfl, rfl, rfl, rfl, unhide HT2, unhide HS2, unhide HB2⟩
  case round =>
    obtain ⟨k, s, told, ahead, jn, hk, hk150, rfl, rfl, rfl, rfl, ht, hbc, hb⟩ := hrel
    have HT := hide ht; have HB := hide hb; have HBC := hide hbc
    clear ht hb hbc HT2 HB2 HS2
    by_cases hgo : k < r.length ∧ k < 150
    · obtain ⟨hlt, h150⟩ := hgo
      obtain ⟨x, hx⟩ : ∃ x, r[k]? = some x := ⟨r[k], List.getElem?_eq_getElem hlt⟩
      have hx0 := unhide HT0 x (List.mem_of_getElem? hx)
      obtain ⟨kd, a, ep, t⟩ := x
      simp only at hx0
      obtain ⟨ad, hA, hadl, c0, c1', c2, c3⟩ := ((unhide HIN).below (unhide HB)) k _ hx
      subst hA
      rw [← Addr.add_add] at c1' c2 c3
      have e1 : wr.cell? ⟨(ad.add (k * 4)).block, (ad.add (k * 4)).off + 1, none⟩ = some (.int .i64 a) := c1'
      have e2 : wr.cell? ⟨(ad.add (k * 4)).block, (ad.add (k * 4)).off + 2, none⟩ = some (.int .i64 ep) := c2
      have e3 : wr.cell? ⟨(ad.add (k * 4)).block, (ad.add (k * 4)).off + 3, none⟩ = some (.int .u64 t) := c3
      simp only at c0
      clear hx c1' c2 c3
      have HM0 := hide ((Mem.start wr).new (t := 34) (cs := opCells 0 0 0 0) wr.heap.size rfl)
      go_upto_region 12 with (refine wpList_store_blk rfl 34 (.tmp 15) (.tmp 53) rfl (wr.heap.size) _ (by rfl) (by rfl) 34 _ (unhide HM0).blk0 (by kernel_rfl) (by rfl) (by simp [Value.oneCell']) ?_; intro w3 hbS hgS; have HM3 := hide ((unhide HM0).grown0 hbS hgS); have HGw3 := hide hgS; clear hbS hgS)
      have HT3 := hide ((unhide HT).new (unhide HM3).below)
      have HDO : Hid (Calls Try.prog 12 #[.pointer (some ⟨p, 0, none⟩), .agg #[.int .i64 kd, .int .i64 a, .int .i64 ep, .int .u64 t]] w3 fun e w' => e = .returned (.int .i64 (deed s kd a ep t).2) ∧ TabAt w' B p (deed s kd a ep t).1 ∧ Only (Own p s) w3 w') := hide (do_any B p s kd a ep t w3 (unhide HT3))
      clear c0 e1 e2 e3 HM0 HGw3
      go_upto_region 14 with (first
        | (go_at_call 10; refine (stable_any B p s _ (unhide HT3)).mono ?_; rintro _ w4 ⟨rfl, rfl⟩)
        | (refine wpList_load_blk rfl 34 (.tmp 15) rfl (wr.heap.size) rfl 34 _ _ ((unhide HM3).blk0) Try.underlying34 rfl (by kernel_rfl) ?_)
        | (go_at_call 12; refine (unhide HDO).mono ?_; rintro _ w6 ⟨rfl, ht6, ho6⟩))
      have hcase : (kd = 3 ∧ (deed s kd a ep t).2 = 0 ∧ BCore (deed s kd a ep t).1 who 0 s.st ep) ∨ (kd = 3 ∧ (deed s kd a ep t).2 ≠ 0 ∧ BCore (deed s kd a ep t).1 who told ahead jn) ∨
          (kd = 2 ∧ a = who ∧ jn ≤ ep ∧ BCore (deed s kd a ep t).1 who (max told t) ahead jn) ∨ (kd = 2 ∧ ¬ (a = who ∧ jn ≤ ep) ∧ BCore (deed s kd a ep t).1 who told ahead jn) ∨
          ((kd < 0 ∨ 4 < kd) ∧ BCore (deed s kd a ep t).1 who told (max ahead t) jn) ∨ ((kd = 0 ∨ kd = 1 ∨ kd = 4) ∧ BCore (deed s kd a ep t).1 who told ahead jn) := by
        have H := unhide HBC
        by_cases c3 : kd = 3
        · subst c3
          by_cases cr : (deed s 3 a ep t).2 = 0
          · exact .inl ⟨rfl, cr, below_join H cr⟩
          · exact .inr (.inl ⟨rfl, cr, below_refused H cr⟩)
        by_cases c2 : kd = 2
        · by_cases ca : a = who ∧ jn ≤ ep
          · obtain ⟨ca, cj⟩ := ca
            subst c2
            subst ca
            exact .inr (.inr (.inl ⟨rfl, rfl, cj, below_told hw1 hw4 H cj⟩))
          · exact .inr (.inr (.inr (.inl ⟨c2, ca, below_else hw1 hw4 H c3 (fun h => ca h.2) (by omega)⟩)))
        by_cases cl : kd < 0 ∨ 4 < kd
        · exact .inr (.inr (.inr (.inr (.inl ⟨cl, below_lift H cl⟩))))
        · exact .inr (.inr (.inr (.inr (.inr ⟨by omega, below_else hw1 hw4 H c3 (fun h => c2 h.1) (by omega)⟩))))
      have ht00 := (unhide HBC).t0
      generalize (deed s kd a ep t).2 = er at hcase ⊢
      generalize (deed s kd a ep t).1 = s' at ht6 hcase
      have HT6 := hide ht6
      have HB6 := hide ((unhide HT3).belowC ho6 ((unhide HB).trans ((unhide HM3).below.mono (unhide HB).size)) (by have := (unhide HB).size; have := (unhide HM3).size; omega) hB)
      have HOP : Hid (Blk w6 wr.heap.size 34 (opCells kd a ep t)) := hide ((unhide HM3).blk0.only ho6 (fun h => Nat.lt_irrefl _ ((unhide HT).mem h)))
      have fo6 := opAt (unhide HOP)
      have HMM6 : Hid (∀ (u : World) (h : TabAt u B p s'), Calls Try.prog 11 #[.pointer (some ⟨p, 0, none⟩)] u fun e w' => e = .returned (.agg #[.bool (s'.got.h 0), .bool (s'.got.h 1), .bool (s'.got.h 2), .bool (s'.got.h 3)]) ∧ Below u.heap.size u w') := hide (fun u h => members_any B p s' u h)
      have hix := fun u => Vec.index_has s'.got.h who hw4 u
      clear ht6 ho6 HDO HBC
      rcases hcase with ⟨c1, c2, hbc⟩ | ⟨c1, c2, hbc⟩ | ⟨c1, c2, c3, hbc⟩ | ⟨c1, c2, hbc⟩ | ⟨c1, hbc⟩ | ⟨c1, hbc⟩
      · have f3 : (kd == 3) = true := beq_iff_eq.2 c1
        have fe : (er == 0) = true := beq_iff_eq.2 c2
        clear c1 c2
        have b0 := hbc.t0
        have bst := hbc.st
        have BC := hide hbc
        clear hbc
        rcases hmb : s'.got.h who with _ | _
        · rw [hmb] at hix
          clear bst
          go_wp2_with fail
          go_quiet (fail)
          have HT6 := hide ((unhide HT6).drewN nq)
          have HB6 := hide (below_drewN' (unhide HB6) nq)
          have HOP := hide ((unhide HOP).drewN nq)
          go_wp2_with (first
            | (go_at_call 11; refine (unhide HMM6 _ (unhide HT6)).mono ?_; rintro _ w7 ⟨rfl, hb7⟩; have HT7 := hide ((unhide HT6).new hb7); have HB7 := hide ((unhide HB6).trans (hb7.mono (unhide HB6).size)); have fo7 := opAt ((unhide HOP).below hb7 (unhide HOP).lt); clear hb7)
            | (go_at_call 10; refine (stable_any B p s' _ (unhide HT7)).mono ?_; rintro _ w8 ⟨rfl, rfl⟩))
          all_goals first
            | (exfalso; omega)
            | exact ⟨⟨k + 1, s', _, _, _, by omega, by omega, by go_num, rfl, rfl, rfl, unhide HT7, ((unhide BC).out (told2 := 0) hmb (by omega)).cast (by omega) (by omega) (by omega), unhide HB7⟩, by simp [intOf]; omega⟩
        · have bst := bst hmb
          rw [hmb] at hix
          go_wp2_with fail
          go_quiet (fail)
          have HT6 := hide ((unhide HT6).drewN nq)
          have HB6 := hide (below_drewN' (unhide HB6) nq)
          have HOP := hide ((unhide HOP).drewN nq)
          go_wp2_with (first
            | (go_at_call 11; refine (unhide HMM6 _ (unhide HT6)).mono ?_; rintro _ w7 ⟨rfl, hb7⟩; have HT7 := hide ((unhide HT6).new hb7); have HB7 := hide ((unhide HB6).trans (hb7.mono (unhide HB6).size)); have fo7 := opAt ((unhide HOP).below hb7 (unhide HOP).lt); clear hb7)
            | (go_at_call 10; refine (stable_any B p s' _ (unhide HT7)).mono ?_; rintro _ w8 ⟨rfl, rfl⟩))
          all_goals first
            | (exfalso; omega)
            | exact ⟨⟨k + 1, s', _, _, _, by omega, by omega, by go_num, rfl, rfl, rfl, unhide HT7, (unhide BC).cast (by omega) (by omega) (by omega), unhide HB7⟩, by simp [intOf]; omega⟩
      · have f3 : (kd == 3) = true := beq_iff_eq.2 c1
        have fe : (er == 0) = false := beq_eq_false_iff_ne.2 c2
        have f2 : (kd == 2) = false := beq_eq_false_iff_ne.2 (by omega)
        have fl : decide (kd < 0) = false := decide_eq_false (by omega)
        have fg : decide (4 < kd) = false := decide_eq_false (by omega)
        clear c1 c2
        have b0 := hbc.t0
        have bst := hbc.st
        have BC := hide hbc
        clear hbc
        rcases hmb : s'.got.h who with _ | _
        · rw [hmb] at hix
          clear bst
          go_wp2_with (first
            | (go_at_call 11; refine (unhide HMM6 _ (unhide HT6)).mono ?_; rintro _ w7 ⟨rfl, hb7⟩; have HT7 := hide ((unhide HT6).new hb7); have HB7 := hide ((unhide HB6).trans (hb7.mono (unhide HB6).size)); have fo7 := opAt ((unhide HOP).below hb7 (unhide HOP).lt); clear hb7)
            | (go_at_call 10; refine (stable_any B p s' _ (unhide HT7)).mono ?_; rintro _ w8 ⟨rfl, rfl⟩))
          all_goals first
            | (exfalso; omega)
            | exact ⟨⟨k + 1, s', _, _, _, by omega, by omega, by go_num, rfl, rfl, rfl, unhide HT7, ((unhide BC).out (told2 := told) hmb (by omega)).cast (by omega) (by omega) (by omega), unhide HB7⟩, by simp [intOf]; omega⟩
        · have bst := bst hmb
          rw [hmb] at hix
          go_wp2_with (first
            | (go_at_call 11; refine (unhide HMM6 _ (unhide HT6)).mono ?_; rintro _ w7 ⟨rfl, hb7⟩; have HT7 := hide ((unhide HT6).new hb7); have HB7 := hide ((unhide HB6).trans (hb7.mono (unhide HB6).size)); have fo7 := opAt ((unhide HOP).below hb7 (unhide HOP).lt); clear hb7)
            | (go_at_call 10; refine (stable_any B p s' _ (unhide HT7)).mono ?_; rintro _ w8 ⟨rfl, rfl⟩))
          all_goals first
            | (exfalso; omega)
            | exact ⟨⟨k + 1, s', _, _, _, by omega, by omega, by go_num, rfl, rfl, rfl, unhide HT7, (unhide BC).cast (by omega) (by omega) (by omega), unhide HB7⟩, by simp [intOf]; omega⟩
      · have f3 : (kd == 3) = false := beq_eq_false_iff_ne.2 (by omega)
        have f2 : (kd == 2) = true := beq_iff_eq.2 c1
        have fa : (a == (who : Int)) = true := beq_iff_eq.2 c2
        clear c1 c2
        have b0 := hbc.t0
        have bst := hbc.st
        have BC := hide hbc
        clear hbc
        rcases hmb : s'.got.h who with _ | _
        · rw [hmb] at hix
          clear bst
          go_wp2_with (first
            | (go_at_call 11; refine (unhide HMM6 _ (unhide HT6)).mono ?_; rintro _ w7 ⟨rfl, hb7⟩; have HT7 := hide ((unhide HT6).new hb7); have HB7 := hide ((unhide HB6).trans (hb7.mono (unhide HB6).size)); have fo7 := opAt ((unhide HOP).below hb7 (unhide HOP).lt); clear hb7)
            | (go_at_call 10; refine (stable_any B p s' _ (unhide HT7)).mono ?_; rintro _ w8 ⟨rfl, rfl⟩))
          all_goals first
            | (exfalso; omega)
            | exact ⟨⟨k + 1, s', _, _, _, by omega, by omega, by go_num, rfl, rfl, rfl, unhide HT7, ((unhide BC).out (told2 := 0) hmb (by omega)).cast (by omega) (by omega) (by omega), unhide HB7⟩, by simp [intOf]; omega⟩
        · have bst := bst hmb
          rw [hmb] at hix
          go_wp2_with (first
            | (go_at_call 11; refine (unhide HMM6 _ (unhide HT6)).mono ?_; rintro _ w7 ⟨rfl, hb7⟩; have HT7 := hide ((unhide HT6).new hb7); have HB7 := hide ((unhide HB6).trans (hb7.mono (unhide HB6).size)); have fo7 := opAt ((unhide HOP).below hb7 (unhide HOP).lt); clear hb7)
            | (go_at_call 10; refine (stable_any B p s' _ (unhide HT7)).mono ?_; rintro _ w8 ⟨rfl, rfl⟩))
          all_goals first
            | (exfalso; omega)
            | exact ⟨⟨k + 1, s', _, _, _, by omega, by omega, by go_num, rfl, rfl, rfl, unhide HT7, (unhide BC).cast (by omega) (by omega) (by omega), unhide HB7⟩, by simp [intOf]; omega⟩
      · have f3 : (kd == 3) = false := beq_eq_false_iff_ne.2 (by omega)
        have f2 : (kd == 2) = true := beq_iff_eq.2 c1
        have fl : decide (kd < 0) = false := decide_eq_false (by omega)
        have fg : decide (4 < kd) = false := decide_eq_false (by omega)
        clear c1
        have c2 : (a ≠ who) ∨ (a = who ∧ ep < jn) := by omega
        rcases c2 with c2 | ⟨c2, c4⟩
        · have fa : (a == (who : Int)) = false := beq_eq_false_iff_ne.2 c2
          clear c2
          have b0 := hbc.t0
          have bst := hbc.st
          have BC := hide hbc
          clear hbc
          rcases hmb : s'.got.h who with _ | _
          · rw [hmb] at hix
            clear bst
            go_wp2_with (first
              | (go_at_call 11; refine (unhide HMM6 _ (unhide HT6)).mono ?_; rintro _ w7 ⟨rfl, hb7⟩; have HT7 := hide ((unhide HT6).new hb7); have HB7 := hide ((unhide HB6).trans (hb7.mono (unhide HB6).size)); have fo7 := opAt ((unhide HOP).below hb7 (unhide HOP).lt); clear hb7)
              | (go_at_call 10; refine (stable_any B p s' _ (unhide HT7)).mono ?_; rintro _ w8 ⟨rfl, rfl⟩))
            all_goals first
              | (exfalso; omega)
              | exact ⟨⟨k + 1, s', _, _, _, by omega, by omega, by go_num, rfl, rfl, rfl, unhide HT7, ((unhide BC).out (told2 := 0) hmb (by omega)).cast (by omega) (by omega) (by omega), unhide HB7⟩, by simp [intOf]; omega⟩
          · have bst := bst hmb
            rw [hmb] at hix
            go_wp2_with (first
              | (go_at_call 11; refine (unhide HMM6 _ (unhide HT6)).mono ?_; rintro _ w7 ⟨rfl, hb7⟩; have HT7 := hide ((unhide HT6).new hb7); have HB7 := hide ((unhide HB6).trans (hb7.mono (unhide HB6).size)); have fo7 := opAt ((unhide HOP).below hb7 (unhide HOP).lt); clear hb7)
              | (go_at_call 10; refine (stable_any B p s' _ (unhide HT7)).mono ?_; rintro _ w8 ⟨rfl, rfl⟩))
            all_goals first
              | (exfalso; omega)
              | exact ⟨⟨k + 1, s', _, _, _, by omega, by omega, by go_num, rfl, rfl, rfl, unhide HT7, (unhide BC).cast (by omega) (by omega) (by omega), unhide HB7⟩, by simp [intOf]; omega⟩
        · have fa : (a == (who : Int)) = true := beq_iff_eq.2 c2
          clear c2
          have b0 := hbc.t0
          have bst := hbc.st
          have BC := hide hbc
          clear hbc
          rcases hmb : s'.got.h who with _ | _
          · rw [hmb] at hix
            clear bst
            go_wp2_with (first
              | (go_at_call 11; refine (unhide HMM6 _ (unhide HT6)).mono ?_; rintro _ w7 ⟨rfl, hb7⟩; have HT7 := hide ((unhide HT6).new hb7); have HB7 := hide ((unhide HB6).trans (hb7.mono (unhide HB6).size)); have fo7 := opAt ((unhide HOP).below hb7 (unhide HOP).lt); clear hb7)
              | (go_at_call 10; refine (stable_any B p s' _ (unhide HT7)).mono ?_; rintro _ w8 ⟨rfl, rfl⟩))
            all_goals first
              | (exfalso; omega)
              | exact ⟨⟨k + 1, s', _, _, _, by omega, by omega, by go_num, rfl, rfl, rfl, unhide HT7, ((unhide BC).out (told2 := 0) hmb (by omega)).cast (by omega) (by omega) (by omega), unhide HB7⟩, by simp [intOf]; omega⟩
          · have bst := bst hmb
            rw [hmb] at hix
            go_wp2_with (first
              | (go_at_call 11; refine (unhide HMM6 _ (unhide HT6)).mono ?_; rintro _ w7 ⟨rfl, hb7⟩; have HT7 := hide ((unhide HT6).new hb7); have HB7 := hide ((unhide HB6).trans (hb7.mono (unhide HB6).size)); have fo7 := opAt ((unhide HOP).below hb7 (unhide HOP).lt); clear hb7)
              | (go_at_call 10; refine (stable_any B p s' _ (unhide HT7)).mono ?_; rintro _ w8 ⟨rfl, rfl⟩))
            all_goals first
              | (exfalso; omega)
              | exact ⟨⟨k + 1, s', _, _, _, by omega, by omega, by go_num, rfl, rfl, rfl, unhide HT7, (unhide BC).cast (by omega) (by omega) (by omega), unhide HB7⟩, by simp [intOf]; omega⟩
      · have f3 : (kd == 3) = false := beq_eq_false_iff_ne.2 (by omega)
        have f2 : (kd == 2) = false := beq_eq_false_iff_ne.2 (by omega)
        have b0 := hbc.t0
        have bst := hbc.st
        have BC := hide hbc
        clear hbc
        rcases hmb : s'.got.h who with _ | _
        · rw [hmb] at hix
          clear bst
          go_wp2_with (first
            | (go_at_call 11; refine (unhide HMM6 _ (unhide HT6)).mono ?_; rintro _ w7 ⟨rfl, hb7⟩; have HT7 := hide ((unhide HT6).new hb7); have HB7 := hide ((unhide HB6).trans (hb7.mono (unhide HB6).size)); have fo7 := opAt ((unhide HOP).below hb7 (unhide HOP).lt); clear hb7)
            | (go_at_call 10; refine (stable_any B p s' _ (unhide HT7)).mono ?_; rintro _ w8 ⟨rfl, rfl⟩))
          all_goals first
            | (exfalso; omega)
            | exact ⟨⟨k + 1, s', _, _, _, by omega, by omega, by go_num, rfl, rfl, rfl, unhide HT7, ((unhide BC).out (told2 := 0) hmb (by omega)).cast (by omega) (by omega) (by omega), unhide HB7⟩, by simp [intOf]; omega⟩
        · have bst := bst hmb
          rw [hmb] at hix
          go_wp2_with (first
            | (go_at_call 11; refine (unhide HMM6 _ (unhide HT6)).mono ?_; rintro _ w7 ⟨rfl, hb7⟩; have HT7 := hide ((unhide HT6).new hb7); have HB7 := hide ((unhide HB6).trans (hb7.mono (unhide HB6).size)); have fo7 := opAt ((unhide HOP).below hb7 (unhide HOP).lt); clear hb7)
            | (go_at_call 10; refine (stable_any B p s' _ (unhide HT7)).mono ?_; rintro _ w8 ⟨rfl, rfl⟩))
          all_goals first
            | (exfalso; omega)
            | exact ⟨⟨k + 1, s', _, _, _, by omega, by omega, by go_num, rfl, rfl, rfl, unhide HT7, (unhide BC).cast (by omega) (by omega) (by omega), unhide HB7⟩, by simp [intOf]; omega⟩
      · have f3 : (kd == 3) = false := beq_eq_false_iff_ne.2 (by omega)
        have f2 : (kd == 2) = false := beq_eq_false_iff_ne.2 (by omega)
        have fl : decide (kd < 0) = false := decide_eq_false (by omega)
        have fg : decide (4 < kd) = false := decide_eq_false (by omega)
        clear c1
        have b0 := hbc.t0
        have bst := hbc.st
        have BC := hide hbc
        clear hbc
        rcases hmb : s'.got.h who with _ | _
        · rw [hmb] at hix
          clear bst
          go_wp2_with (first
            | (go_at_call 11; refine (unhide HMM6 _ (unhide HT6)).mono ?_; rintro _ w7 ⟨rfl, hb7⟩; have HT7 := hide ((unhide HT6).new hb7); have HB7 := hide ((unhide HB6).trans (hb7.mono (unhide HB6).size)); have fo7 := opAt ((unhide HOP).below hb7 (unhide HOP).lt); clear hb7)
            | (go_at_call 10; refine (stable_any B p s' _ (unhide HT7)).mono ?_; rintro _ w8 ⟨rfl, rfl⟩))
          all_goals first
            | (exfalso; omega)
            | exact ⟨⟨k + 1, s', _, _, _, by omega, by omega, by go_num, rfl, rfl, rfl, unhide HT7, ((unhide BC).out (told2 := 0) hmb (by omega)).cast (by omega) (by omega) (by omega), unhide HB7⟩, by simp [intOf]; omega⟩
        · have bst := bst hmb
          rw [hmb] at hix
          go_wp2_with (first
            | (go_at_call 11; refine (unhide HMM6 _ (unhide HT6)).mono ?_; rintro _ w7 ⟨rfl, hb7⟩; have HT7 := hide ((unhide HT6).new hb7); have HB7 := hide ((unhide HB6).trans (hb7.mono (unhide HB6).size)); have fo7 := opAt ((unhide HOP).below hb7 (unhide HOP).lt); clear hb7)
            | (go_at_call 10; refine (stable_any B p s' _ (unhide HT7)).mono ?_; rintro _ w8 ⟨rfl, rfl⟩))
          all_goals first
            | (exfalso; omega)
            | exact ⟨⟨k + 1, s', _, _, _, by omega, by omega, by go_num, rfl, rfl, rfl, unhide HT7, (unhide BC).cast (by omega) (by omega) (by omega), unhide HB7⟩, by simp [intOf]; omega⟩
    · rcases Nat.lt_or_ge k r.length with hlt | hlt
      all_goals
        go_wp2_with (go_at_call 7; refine (unhide HA _).mono ?_; rintro _ w5 ⟨rfl, hb5⟩; have HB5 := hide ((unhide HB).trans (hb5.mono (unhide HB).size)); clear hb5)
        go_ret
        exact ⟨rfl, unhide HB5⟩
end Go.Proofs.Ytmogoockhlfabaa
