/- The walk of StabRises. -/
import Derived.Test.YtmogoockhlfabaaStabOpen
namespace Go.Proofs.Ytmogoockhlfabaa
set_option linter.unusedVariables false
open Go.RowKit

theorem TabAt.below {w w1 w2 : World} {B p : Nat} {s s1 : Tb} (h : TabAt w1 B p s) (ho : Only (Own p s) w1 w2) (hb : Below B w w1) (hB : B ≤ w1.heap.size) : Below B w w2 :=
  hb.trans (ho.below hB fun k hk => by
    rcases hk with rfl | hk
    · exact h.ge
    · exact (h.row.lt k hk).1)
theorem TabAt.belowC {w w1 w2 : World} {B C p : Nat} {s : Tb} (h : TabAt w1 B p s) (ho : Only (Own p s) w1 w2) (hb : Below C w w1) (hB : C ≤ w1.heap.size) (hC : C ≤ B) : Below C w w2 :=
  hb.trans (ho.below hB fun k hk => by
    rcases hk with rfl | hk
    · exact Nat.le_trans hC h.ge
    · exact Nat.le_trans hC (h.row.lt k hk).1)
theorem TabAt.mem {w : World} {B p : Nat} {s : Tb} (h : TabAt w B p s) {k : Nat} (hk : Own p s k) : k < w.heap.size := by
  rcases hk with rfl | hk
  · exact h.blk.lt
  · exact (h.row.lt k hk).2

set_option maxHeartbeats 8000000 in
set_option maxRecDepth 20000 in
theorem stabRises_ok (dc : Int) (n : Nat) (has : Nat → Bool) (A : Option Addr) (c : Nat) (r : List Opr) (w : World) (h1 : 0 ≤ dc) (h2 : dc < 4) (h3 : 1 ≤ n) (h4 : n ≤ 4) (hin : InOps w w.heap.size A r) (hc : r.length ≤ c) (hc2 : c ≤ 9223372036854775807) :
    Calls Try.prog 3 #[.int .i64 dc, .int .i64 (n : Int), .agg (Vec.hasCells has), .slice A r.length c] w fun e w' => e = .returned (.bool true) ∧ Below w.heap.size w w' := by
  have HA := hide awake_any
  have HIN := hide hin
  clear hin
  have HB0 := hide ((Below.refl w.heap.size w).alloc (Nat.le_refl _) (.cells #[.bool (has 0), .bool (has 1), .bool (has 2), .bool (has 3)] 22))
  have HN : Hid (Calls Try.prog 6 #[.int .i64 dc, .int .i64 (n : Int), .agg #[.bool (has 0), .bool (has 1), .bool (has 2), .bool (has 3)]] (w.alloc (.cells #[.bool (has 0), .bool (has 1), .bool (has 2), .bool (has 3)] 22)) fun e w' => ∃ p A c, e = .returned (.tuple #[.pointer (some ⟨p, 0, none⟩), .int .i64 0]) ∧ TabAt w' (w.alloc (.cells #[.bool (has 0), .bool (has 1), .bool (has 2), .bool (has 3)] 22)).heap.size p (newT dc A n c has) ∧ Below (w.alloc (.cells #[.bool (has 0), .bool (has 1), .bool (has 2), .bool (has 3)] 22)).heap.size (w.alloc (.cells #[.bool (has 0), .bool (has 1), .bool (has 2), .bool (has 3)] 22)) w') := hide (new_ok dc n has _ h1 h2 h3 h4)
  have H5a : Hid (Blk (w.alloc (.cells #[.bool (has 0), .bool (has 1), .bool (has 2), .bool (has 3)] 22)) w.heap.size 22 (Vec.hasCells has)) := hide (Blk.new w 22 (Vec.hasCells has))
  have fh := hasAt (unhide H5a)
  show Calls Try.prog 3 #[.int .i64 dc, .int .i64 (n : Int), .agg #[.bool (has 0), .bool (has 1), .bool (has 2), .bool (has 3)], .slice A r.length c] w _
  go_enter Try.func3, Try.ntmps3
  go_wp2_with (go_at_call 6; refine (unhide HN).mono ?_; rintro _ w1 ⟨p, A1, c1, rfl, ht1, hb1⟩
               have HT1 := hide ht1; have HB1 := hide ((unhide HB0).trans (hb1.mono (by simp))); clear ht1 hb1)
  have hB : w.heap.size ≤ (w.alloc (.cells #[.bool (has 0), .bool (has 1), .bool (has 2), .bool (has 3)] 22)).heap.size := by simp
  generalize (w.alloc (.cells #[.bool (has 0), .bool (has 1), .bool (has 2), .bool (has 3)] 22)).heap.size = B at HT1 hB
  clear HN HB0 H5a fh
  go_loopw [11] (fun i wr => ∃ (k : Nat) (s : Tb), k ≤ r.length ∧ k ≤ 150 ∧ i = .int .i64 k ∧ TabAt wr B p s ∧ Below w.heap.size w wr ∧ B ≤ wr.heap.size) (fun i _ => r.length - (intOf i).toNat)
  case atStart => exact ⟨0, _, by omega, by omega, rfl, unhide HT1, unhide HB1, by have := (unhide HT1).blk.lt; have := (unhide HT1).ge; omega⟩
  case round =>
    obtain ⟨k, s, hk, hk150, rfl, ht, hb, hBr⟩ := hrel
    have HT := hide ht; have HB := hide hb
    clear ht hb HT1 HB1
    by_cases hgo : k < r.length ∧ k < 150
    · obtain ⟨hlt, h150⟩ := hgo
      obtain ⟨x, hx⟩ : ∃ x, r[k]? = some x := ⟨r[k], List.getElem?_eq_getElem hlt⟩
      obtain ⟨kd, a, ep, t⟩ := x
      have HX := hide hx
      clear hx
      have HMM : Hid (∀ (u : World) (h : TabAt u B p s), Calls Try.prog 11 #[.pointer (some ⟨p, 0, none⟩)] u fun e w' => e = .returned (.agg #[.bool (s.got.h 0), .bool (s.got.h 1), .bool (s.got.h 2), .bool (s.got.h 3)]) ∧ Below u.heap.size u w') := hide (fun u h => members_any B p s u h)
      have HAP : Hid (∀ (u : World) (h : TabAt u B p s), Calls Try.prog 9 #[.pointer (some ⟨p, 0, none⟩)] u fun e w' => e = .returned (.int .u64 (appl s)) ∧ Below u.heap.size u w') := hide (fun u h => applied_any B p s u h)
      go_upto_region 8 with (first
        | (go_at_call 8; refine (local_any B p s _ (unhide HT)).mono ?_; rintro _ w2 ⟨rfl, rfl⟩)
        | (go_at_call 9; refine (unhide HAP _ (unhide HT)).mono ?_; rintro _ w3 ⟨rfl, hb3⟩; have HT3 := hide ((unhide HT).new hb3); have HB3 := hide ((unhide HB).trans (hb3.mono (unhide HB).size)); have hs3 := hb3.size; clear hb3)
        | (go_at_call 10; refine (stable_any B p s _ (unhide HT3)).mono ?_; rintro _ w4 ⟨rfl, rfl⟩))
      go_upto_region 9 with (first
        | (go_at_call 11; refine (unhide HMM _ (unhide HT3)).mono ?_; rintro _ w4 ⟨rfl, hb4⟩; have HT4 := hide ((unhide HT3).new hb4); have HB4 := hide ((unhide HB3).trans (hb4.mono (unhide HB3).size)); have hs4 := hb4.size; clear hb4
           have HM4 := hide ((Mem.start w4).new (t := 22) (cs := Vec.hasCells fun _ => false) w4.heap.size rfl))
        | (refine wpList_store_blk rfl 22 (.tmp 15) (.tmp 56) rfl (w4.heap.size) _ (by rfl) (by rfl) 22 _ (unhide HM4).blk0 (by kernel_rfl) (by rfl) (by simp [Value.oneCell']) ?_; intro w5 hbS hgS; have HM5 := hide ((unhide HM4).grown0 hbS hgS); have HGw5 := hide hgS; clear hbS hgS))
      have HT5 := hide ((unhide HT4).new (unhide HM5).below)
      have HB5 := hide ((unhide HB4).trans ((unhide HM5).below.mono (unhide HB4).size))
      have hs5 := (unhide HM5).size
      obtain ⟨ad, hA, hadl, c0, c1', c2, c3⟩ := ((unhide HIN).below (unhide HB5)) k _ (unhide HX)
      subst hA
      rw [← Addr.add_add] at c1' c2 c3
      have e1 : w5.cell? ⟨(ad.add (k * 4)).block, (ad.add (k * 4)).off + 1, none⟩ = some (.int .i64 a) := c1'
      have e2 : w5.cell? ⟨(ad.add (k * 4)).block, (ad.add (k * 4)).off + 2, none⟩ = some (.int .i64 ep) := c2
      have e3 : w5.cell? ⟨(ad.add (k * 4)).block, (ad.add (k * 4)).off + 3, none⟩ = some (.int .u64 t) := c3
      simp only at c0
      have HDO : Hid (Calls Try.prog 12 #[.pointer (some ⟨p, 0, none⟩), .agg #[.int .i64 kd, .int .i64 a, .int .i64 ep, .int .u64 t]] w5 fun e w' => e = .returned (.int .i64 (deed s kd a ep t).2) ∧ TabAt w' B p (deed s kd a ep t).1 ∧ Only (Own p s) w5 w') := hide (do_any B p s kd a ep t w5 (unhide HT5))
      clear c1' c2 c3
      go_upto_region 10 with (go_at_call 12; refine (unhide HDO).mono ?_; rintro _ w6 ⟨rfl, ht6, ho6⟩)
      have hm := rises s kd a ep t (unhide HT5).len
      generalize (deed s kd a ep t).2 = er
      generalize (deed s kd a ep t).1 = s' at ht6 hm
      have HT6 := hide ht6
      have HB6 := hide ((unhide HT5).belowC ho6 (unhide HB5) (unhide HB5).size hB)
      have HM6 : Hid (Blk w6 w4.heap.size 22 (Vec.hasCells s.got.h)) := hide ((unhide HM5).blk0.only ho6 (fun h => Nat.lt_irrefl _ ((unhide HT4).mem h)))
      have fh6 := hasAt (unhide HM6)
      have HC0 : Hid (∀ u : World, Below w.heap.size w u → u.cell? (ad.add (k * 4)) = some (.int .i64 kd)) := hide (fun u hu => by
        obtain ⟨ad2, e, _, h, _⟩ := ((unhide HIN).below hu) k _ (unhide HX)
        injection e with e
        subst e
        exact h)
      have HMM6 : Hid (∀ (u : World) (h : TabAt u B p s'), Calls Try.prog 11 #[.pointer (some ⟨p, 0, none⟩)] u fun e w' => e = .returned (.agg #[.bool (s'.got.h 0), .bool (s'.got.h 1), .bool (s'.got.h 2), .bool (s'.got.h 3)]) ∧ Below u.heap.size u w') := hide (fun u h => members_any B p s' u h)
      have HAP6 : Hid (∀ (u : World) (h : TabAt u B p s'), Calls Try.prog 9 #[.pointer (some ⟨p, 0, none⟩)] u fun e w' => e = .returned (.int .u64 (appl s')) ∧ Below u.heap.size u w') := hide (fun u h => applied_any B p s' u h)
      have heq1 := fun u => eql_none s'.got.h u
      have heq2 := fun u => eql_none s.got.h u
      have d1 : decide (loc s'.bs < loc s.bs) = false := decide_eq_false (by omega)
      have d2 : decide (s'.st < s.st) = false := decide_eq_false (by omega)
      obtain ⟨_, _, hm⟩ := hm
      have HM := hide hm
      clear ht6 ho6 c0 e1 e2 e3 hm HDO HMM HAP
      rcases unhide HM with hm | hm | ⟨hm1, hm2⟩
      · have d3 : decide (appl s' < appl s) = false := decide_eq_false (by omega)
        clear HM hm
        rcases hn1 : noneB s'.got.h with _ | _ <;> rcases hn2 : noneB s.got.h with _ | _ <;> rw [hn1] at heq1 <;> rw [hn2] at heq2
        all_goals
          go_wp2_with (first
            | (go_at_call 11; refine (unhide HMM6 _ (unhide HT6)).mono ?_; rintro _ w7 ⟨rfl, hb7⟩; have HT7 := hide ((unhide HT6).new hb7); have HB7 := hide ((unhide HB6).trans (hb7.mono (unhide HB6).size)); have fh7 := hasAt ((unhide HM6).below hb7 (unhide HM6).lt); have ck7 := unhide HC0 _ (unhide HB7); clear hb7)
            | (go_at_call 8; refine (local_any B p s' _ (unhide HT7)).mono ?_; rintro _ w8 ⟨rfl, rfl⟩)
            | (go_at_call 10; refine (stable_any B p s' _ (unhide HT7)).mono ?_; rintro _ w8 ⟨rfl, rfl⟩)
            | (go_at_call 9; refine (unhide HAP6 _ (unhide HT7)).mono ?_; rintro _ w9 ⟨rfl, hb9⟩; have HT9 := hide ((unhide HT7).new hb9); have HB9 := hide ((unhide HB7).trans (hb9.mono (unhide HB7).size)); have ck9 := unhide HC0 _ (unhide HB9); clear hb9))
          all_goals exact ⟨⟨k + 1, s', by omega, by omega, by go_num, unhide HT9, unhide HB9, by have := (unhide HT9).blk.lt; have := (unhide HT9).ge; omega⟩, by simp [intOf]; omega⟩
      · have f3 : (kd == 3) = true := beq_iff_eq.2 hm
        clear HM hm
        rcases d3 : decide (appl s' < appl s) with _ | _ <;> rcases hn1 : noneB s'.got.h with _ | _ <;> rcases hn2 : noneB s.got.h with _ | _ <;> rw [hn1] at heq1 <;> rw [hn2] at heq2
        all_goals
          go_wp2_with (first
            | (go_at_call 11; refine (unhide HMM6 _ (unhide HT6)).mono ?_; rintro _ w7 ⟨rfl, hb7⟩; have HT7 := hide ((unhide HT6).new hb7); have HB7 := hide ((unhide HB6).trans (hb7.mono (unhide HB6).size)); have fh7 := hasAt ((unhide HM6).below hb7 (unhide HM6).lt); have ck7 := unhide HC0 _ (unhide HB7); clear hb7)
            | (go_at_call 8; refine (local_any B p s' _ (unhide HT7)).mono ?_; rintro _ w8 ⟨rfl, rfl⟩)
            | (go_at_call 10; refine (stable_any B p s' _ (unhide HT7)).mono ?_; rintro _ w8 ⟨rfl, rfl⟩)
            | (go_at_call 9; refine (unhide HAP6 _ (unhide HT7)).mono ?_; rintro _ w9 ⟨rfl, hb9⟩; have HT9 := hide ((unhide HT7).new hb9); have HB9 := hide ((unhide HB7).trans (hb9.mono (unhide HB7).size)); have ck9 := unhide HC0 _ (unhide HB9); clear hb9))
          all_goals exact ⟨⟨k + 1, s', by omega, by omega, by go_num, unhide HT9, unhide HB9, by have := (unhide HT9).blk.lt; have := (unhide HT9).ge; omega⟩, by simp [intOf]; omega⟩
      · rw [hm1] at heq1
        rw [hm2] at heq2
        clear HM
        rcases d3 : decide (appl s' < appl s) with _ | _ <;> rcases f3 : (kd == 3) with _ | _
        all_goals
          go_wp2_with (first
            | (go_at_call 11; refine (unhide HMM6 _ (unhide HT6)).mono ?_; rintro _ w7 ⟨rfl, hb7⟩; have HT7 := hide ((unhide HT6).new hb7); have HB7 := hide ((unhide HB6).trans (hb7.mono (unhide HB6).size)); have fh7 := hasAt ((unhide HM6).below hb7 (unhide HM6).lt); have ck7 := unhide HC0 _ (unhide HB7); clear hb7)
            | (go_at_call 8; refine (local_any B p s' _ (unhide HT7)).mono ?_; rintro _ w8 ⟨rfl, rfl⟩)
            | (go_at_call 10; refine (stable_any B p s' _ (unhide HT7)).mono ?_; rintro _ w8 ⟨rfl, rfl⟩)
            | (go_at_call 9; refine (unhide HAP6 _ (unhide HT7)).mono ?_; rintro _ w9 ⟨rfl, hb9⟩; have HT9 := hide ((unhide HT7).new hb9); have HB9 := hide ((unhide HB7).trans (hb9.mono (unhide HB7).size)); have ck9 := unhide HC0 _ (unhide HB9); clear hb9))
          all_goals exact ⟨⟨k + 1, s', by omega, by omega, by go_num, unhide HT9, unhide HB9, by have := (unhide HT9).blk.lt; have := (unhide HT9).ge; omega⟩, by simp [intOf]; omega⟩
    · rcases Nat.lt_or_ge k r.length with hlt | hlt
      all_goals
        go_wp2_with (go_at_call 7; refine (unhide HA _).mono ?_; rintro _ w5 ⟨rfl, hb5⟩; have HB5 := hide ((unhide HB).trans (hb5.mono (unhide HB).size)); clear hb5)
        go_ret
        exact ⟨rfl, unhide HB5⟩

set_option maxHeartbeats 4000000 in
set_option maxRecDepth 20000 in
theorem stabRises_bad (dc n : Int) (has : Nat → Bool) (v : Value) (w : World) (h : badNew dc n) :
    Calls Try.prog 3 #[.int .i64 dc, .int .i64 n, .agg (Vec.hasCells has), v] w fun e w' => e = .returned (.bool true) ∧ Below w.heap.size w w' := by
  have HA := hide awake_any
  have HB0 := hide ((Below.refl w.heap.size w).alloc (Nat.le_refl _) (.cells #[.bool (has 0), .bool (has 1), .bool (has 2), .bool (has 3)] 22))
  have HN : Hid (∀ u : World, Calls Try.prog 6 #[.int .i64 dc, .int .i64 n, .agg #[.bool (has 0), .bool (has 1), .bool (has 2), .bool (has 3)]] u fun e w' => e = .returned (.tuple #[.pointer none, .int .i64 1]) ∧ Below u.heap.size u w') := hide (fun u => new_bad dc n has u h)
  have H5a : Hid (Blk (w.alloc (.cells #[.bool (has 0), .bool (has 1), .bool (has 2), .bool (has 3)] 22)) w.heap.size 22 (Vec.hasCells has)) := hide (Blk.new w 22 (Vec.hasCells has))
  have fh := hasAt (unhide H5a)
  clear h
  show Calls Try.prog 3 #[.int .i64 dc, .int .i64 n, .agg #[.bool (has 0), .bool (has 1), .bool (has 2), .bool (has 3)], v] w _
  go_enter Try.func3, Try.ntmps3
  go_wp2_with (first
    | (go_at_call 6; refine (unhide HN _).mono ?_; rintro _ w1 ⟨rfl, hb1⟩; have HB1 := hide ((unhide HB0).trans (hb1.mono (by simp))); clear hb1)
    | (go_at_call 7; refine (unhide HA _).mono ?_; rintro _ w5 ⟨rfl, hb5⟩; have HB5 := hide ((unhide HB1).trans (hb5.mono (unhide HB1).size)); clear hb5))
  go_ret
  exact ⟨rfl, unhide HB5⟩
theorem stabRises_any (dc n : Int) (has : Nat → Bool) (A : Option Addr) (c : Nat) (r : List Opr) (w : World) (hin : InOps w w.heap.size A r) (hc : r.length ≤ c) (hc2 : c ≤ 9223372036854775807) :
    Calls Try.prog 3 #[.int .i64 dc, .int .i64 n, .agg (Vec.hasCells has), .slice A r.length c] w fun e w' => e = .returned (.bool true) ∧ Below w.heap.size w w' := by
  by_cases h : badNew dc n
  · exact stabRises_bad dc n has _ w h
  · unfold badNew at h
    obtain ⟨m, rfl⟩ : ∃ m : Nat, n = m := ⟨n.toNat, by omega⟩
    exact stabRises_ok dc m has A c r w (by omega) (by omega) (by omega) (by omega) hin hc hc2
end Go.Proofs.Ytmogoockhlfabaa
