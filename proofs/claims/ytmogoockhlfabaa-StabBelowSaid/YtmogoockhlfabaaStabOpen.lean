/- Scripts of calls that came in, at a seat of stab's. -/
import Derived.Test.YtmogoockhlfabaaStabMath
import Derived.Test.YtmogoockhlfabaaOpenRow
namespace Go.Proofs.Ytmogoockhlfabaa
open Go.ChangeShapes Go.WideShapes Go.ChangeAt Go.RowKit
set_option linter.unusedVariables false
/-- a call: its kind, whose, its epoch, its time -/
abbrev Opr := Int × Int × Int × Int
def InOps (w : World) (B : Nat) (A : Option Addr) (r : List Opr) : Prop :=
  ∀ (i : Nat) (x : Opr), r[i]? = some x → ∃ ad : Addr, A = some ad ∧ ad.block < B ∧ w.cell? (ad.add (i * 4)) = some (.int .i64 x.1) ∧ w.cell? (ad.add (i * 4 + 1)) = some (.int .i64 x.2.1) ∧ w.cell? (ad.add (i * 4 + 2)) = some (.int .i64 x.2.2.1) ∧ w.cell? (ad.add (i * 4 + 3)) = some (.int .u64 x.2.2.2)
theorem InOps.below {w w' : World} {B : Nat} {A : Option Addr} {r : List Opr} (h : InOps w B A r) (hb : Below B w w') : InOps w' B A r := fun i x hx => by
  obtain ⟨ad, e, hl, h0, h1, h2, h3⟩ := h i x hx
  exact ⟨ad, e, hl, (hb.cell (p := ad.add _) (by rw [block_of_add]; exact hl)).trans h0, (hb.cell (p := ad.add _) (by rw [block_of_add]; exact hl)).trans h1, (hb.cell (p := ad.add _) (by rw [block_of_add]; exact hl)).trans h2, (hb.cell (p := ad.add _) (by rw [block_of_add]; exact hl)).trans h3⟩
section
variable {H : Type} {enc : TypeId × Value → H} {W : World} {k : DataW H → Prop}
theorem trod_op {fuel : Nat} {cs : List Value} {d : DataW H} {p : List MemPlace} (hf : DataW.trod enc Try.prog W 0 (fun _ => true) true fuel 34 cs = some (d, p)) :
    ∃ (x : Opr), cs = [.int .i64 x.1, .int .i64 x.2.1, .int .i64 x.2.2.1, .int .u64 x.2.2.2] ∧ 0 ≤ x.2.2.2 ∧ -9223372036854775808 ≤ x.2.2.1 := by
  obtain ⟨xs, n, _, hx, hl, hlen, hs⟩ := DataW.trod_struct Try.underlying34 hf
  have hl : cs.length = 4 := hl.trans (by kernel_rfl)
  match cs, hl, xs, hlen with
  | [c0, c1, c2, c3], _, [y0, y1, y2, y3], _ =>
    simp only [Prod.mk.injEq] at hx
    obtain ⟨rfl, rfl⟩ := hx
    have e0 : DataW.trod enc Try.prog W 0 (fun _ => true) true n 3 [c0] = some y0 := hs 0 _ rfl
    have e1 : DataW.trod enc Try.prog W 0 (fun _ => true) true n 3 [c1] = some y1 := hs 1 _ rfl
    have e2 : DataW.trod enc Try.prog W 0 (fun _ => true) true n 3 [c2] = some y2 := hs 2 _ rfl
    have e3 : DataW.trod enc Try.prog W 0 (fun _ => true) true n 29 [c3] = some y3 := hs 3 _ rfl
    obtain ⟨a, rfl, _⟩ := cell_i64 Try.underlying3 e0
    obtain ⟨b, rfl, _⟩ := cell_i64 Try.underlying3 e1
    obtain ⟨c, rfl, hc⟩ := cell_i64 Try.underlying3 e2
    obtain ⟨d, rfl, hd⟩ := cell_u64 Try.underlying29 e3
    exact ⟨(a, b, c, d), rfl, hd.1, hc.1⟩
theorem Came.ops {x : Value} (h : Came enc Try.prog W k 23 x) :
    ∃ (A : Option Addr) (c : Nat) (r : List Opr), x = .slice A r.length c ∧ r.length ≤ c ∧ c ≤ 9223372036854775807 ∧ InOps W W.heap.size A r ∧ (∀ x ∈ r, 0 ≤ x.2.2.2 ∧ -9223372036854775808 ≤ x.2.2.1) := by
  obtain ⟨d, p, base, h1, hok, h3, _⟩ := h
  have lt0 : ∀ x ∈ p, x.block < W.heap.size := by obtain ⟨m, hm⟩ := h1; exact DataW.trod_lt m _ _ _ hm
  obtain ⟨fuel, hf⟩ := h1
  obtain ⟨A0, n0, c0, rfl⟩ := okWide_slice Try.underlying23 hok
  obtain ⟨A, n, c, e0, e1, _, e2, hel⟩ := open_slice (s := 4) (y := (d, p)) Try.underlying23 (by kernel_rfl) (by omega) (by simpa [Value.cells] using hf) lt0 h3
  obtain ⟨r, hr, hR⟩ := choose_list (R := fun i (x : Opr) => (∃ ad : Addr, A = some ad ∧ ad.block < W.heap.size ∧ W.cell? (ad.add (i * 4)) = some (.int .i64 x.1) ∧ W.cell? (ad.add (i * 4 + 1)) = some (.int .i64 x.2.1) ∧ W.cell? (ad.add (i * 4 + 2)) = some (.int .i64 x.2.2.1) ∧
    W.cell? (ad.add (i * 4 + 3)) = some (.int .u64 x.2.2.2)) ∧ 0 ≤ x.2.2.2 ∧ -9223372036854775808 ≤ x.2.2.1) n (fun i hi => by
    obtain ⟨ad, cs, z, m, g1, g2, g3, g4, g5, g6⟩ := hel i hi
    obtain ⟨x, rfl, hx⟩ := trod_op (d := z.1) (p := z.2) g4
    exact ⟨x, ⟨ad, g1, g2, g3 0 _ rfl, g3 1 _ rfl, g3 2 _ rfl, g3 3 _ rfl⟩, hx⟩)
  refine ⟨A, c, r, by rw [e0, hr], by omega, e2, fun i x hx => (hR i x hx).1, fun x hx => ?_⟩
  obtain ⟨i, hi⟩ := List.mem_iff_getElem?.1 hx
  exact (hR i x hi).2
end

theorem eql_none (h : Nat → Bool) (w : World) : (Op.equalIn 10000 22 (.agg #[.bool (h 0), .bool (h 1), .bool (h 2), .bool (h 3)]) (.agg #[.bool false, .bool false, .bool false, .bool false])).run Try.prog w = .ok (noneB h) w :=
  run_equalIn_four_bool (P := Try.prog) (w := w) 9998 22 4 h (fun _ => false) Try.underlying22 Try.underlying4 rfl
def awakeHas : Nat → Bool := fun i => decide (i < 2)
set_option maxHeartbeats 4000000 in
set_option maxRecDepth 20000 in
theorem awake_any (w : World) : Calls Try.prog 7 #[] w fun e w' => e = .returned (.bool true) ∧ Below w.heap.size w w' := by
  have HN : Hid (Calls Try.prog 6 #[.int .i64 0, .int .i64 1, .agg #[.bool true, .bool true, .bool false, .bool false]] w fun e w' => ∃ p A c, e = .returned (.tuple #[.pointer (some ⟨p, 0, none⟩), .int .i64 0]) ∧ TabAt w' w.heap.size p (newT 0 A 1 c awakeHas) ∧ Below w.heap.size w w') := hide (new_ok 0 1 awakeHas w (by omega) (by omega) (by omega) (by omega))
  go_enter Try.func7, Try.ntmps7
  go_wp2_with (first
    | (go_at_call 6; refine (unhide HN).mono ?_; rintro _ w1 ⟨p, A, c, rfl, ht1, hb1⟩
       have HT1 := hide ht1; have HB1 := hide hb1; clear ht1 hb1
       obtain ⟨s2, hs2⟩ : ∃ s, beaten (newT 0 A 1 c awakeHas) 0 9 = s := ⟨_, rfl⟩
       obtain ⟨s3, hs3⟩ : ∃ s, gotten s2 1 5 = s := ⟨_, rfl⟩
       obtain ⟨s4, hs4⟩ : ∃ s, heard s3 1 0 7 = s := ⟨_, rfl⟩
       have hv : loc s4.bs = 9 ∧ appl s4 = 5 ∧ s4.st = 5 := (by subst hs4 hs3 hs2; exact ⟨rfl, rfl, rfl⟩)
       have HV := hide hv; have HS2 := hide hs2; have HS3 := hide hs3; have HS4 := hide hs4; clear hv hs2 hs3 hs4)
    | (go_at_call 14; refine (beat_any _ p _ 0 9 _ (unhide HT1)).mono ?_; rintro _ w2 ⟨rfl, ht2, ho2⟩
       rw [unhide HS2] at ht2; have HT2 := hide ht2; have HB2 := hide ((unhide HB1).trans (ho2.below (unhide HB1).size (fun k hk => by rcases hk with rfl | hk; exact (unhide HT1).ge; exact ((unhide HT1).row.lt k hk).1))); clear ht2 ho2)
    | (go_at_call 15; refine (got_any _ p _ 1 5 _ (unhide HT2)).mono ?_; rintro _ w3 ⟨rfl, ht3, ho3⟩
       rw [unhide HS3] at ht3; have HT3 := hide ht3; have HB3 := hide ((unhide HB2).trans (ho3.below (unhide HB2).size (fun k hk => by subst hk; exact (unhide HT1).ge))); clear ht3 ho3)
    | (go_at_call 16; refine (told_any _ p _ 1 0 7 _ (unhide HT3)).mono ?_; rintro _ w4 ⟨rfl, ht4, ho4⟩
       rw [unhide HS4] at ht4; have HT4 := hide ht4; have HB4 := hide ((unhide HB3).trans (ho4.below (unhide HB3).size (fun k hk => by subst hk; exact (unhide HT1).ge))); clear ht4 ho4)
    | (go_at_call 8; refine (local_any _ p _ _ (unhide HT4)).mono ?_; rintro _ w5 ⟨rfl, rfl⟩; rw [(unhide HV).1])
    | (go_at_call 9; refine (applied_any _ p _ _ (unhide HT4)).mono ?_; rintro _ w6 ⟨rfl, hb6⟩
       rw [show (Vec.least (Vec.raise s4.got s4.dc (loc s4.bs))).1 = 5 from (unhide HV).2.1]; have HT6 := hide ((unhide HT4).new hb6); have HB6 := hide ((unhide HB4).trans (hb6.mono (unhide HB4).size)); clear hb6)
    | (go_at_call 10; refine (stable_any _ p _ _ (unhide HT6)).mono ?_; rintro _ w7 ⟨rfl, rfl⟩; rw [(unhide HV).2.2]))
  go_ret
  exact ⟨rfl, unhide HB6⟩

set_option maxHeartbeats 4000000 in
set_option maxRecDepth 20000 in
theorem stabNone_any (A : Option Addr) (c : Nat) (r : List Opr) (w : World) (hin : InOps w w.heap.size A r) (hc : r.length ≤ c) (hc2 : c ≤ 9223372036854775807) :
    Calls Try.prog 5 #[.slice A r.length c] w fun e w' => e = .returned (.bool true) ∧ Below w.heap.size w w' := by
  have HA := hide awake_any
  have HIN := hide hin
  clear hin
  go_enter Try.func5, Try.ntmps5
  go_wp2_with fail
  go_loopw [4] (fun i wr => ∃ k : Nat, k ≤ r.length ∧ k ≤ 50 ∧ i = .int .i64 k ∧ Below w.heap.size w wr) (fun i _ => r.length - (intOf i).toNat)
  case atStart => exact ⟨0, by omega, by omega, rfl, Below.refl _ _⟩
  case round =>
    obtain ⟨k, hk, hk50, rfl, hb⟩ := hrel
    have HB := hide hb
    clear hb
    by_cases hgo : k < r.length ∧ k < 50
    · obtain ⟨hlt, h50⟩ := hgo
      obtain ⟨x, hx⟩ : ∃ x, r[k]? = some x := ⟨r[k], List.getElem?_eq_getElem hlt⟩
      obtain ⟨ad, hA, hadl, c0, c1, c2, c3⟩ := ((unhide HIN).below (unhide HB)) k x hx
      subst hA
      rw [← Addr.add_add] at c1 c2 c3
      have e1 : wr.cell? ⟨(ad.add (k * 4)).block, (ad.add (k * 4)).off + 1, none⟩ = some (.int .i64 x.2.1) := c1
      have e2 : wr.cell? ⟨(ad.add (k * 4)).block, (ad.add (k * 4)).off + 2, none⟩ = some (.int .i64 x.2.2.1) := c2
      have e3 : wr.cell? ⟨(ad.add (k * 4)).block, (ad.add (k * 4)).off + 3, none⟩ = some (.int .u64 x.2.2.2) := c3
      obtain ⟨kd, a, ep, t⟩ := x
      simp only at c0 e1 e2 e3
      have HC0 := hide (fun w2 (hb2 : Below wr.heap.size wr w2) => (show w2.cell? (ad.add (k * 4)) = some (.int .i64 kd) from (hb2.cell (p := ad.add (k * 4)) (by rw [block_of_add]; have := (unhide HB).size; omega)).trans c0))
      have HD := hide (do_nil kd a ep t wr)
      clear hx
      go_upto_region 6 with (go_at_call 12; refine (unhide HD).mono ?_; rintro _ w2 ⟨rfl, hb2⟩; have c0' := unhide HC0 _ hb2; have HB2 := hide ((unhide HB).trans (hb2.mono (unhide HB).size)); clear hb2)
      clear c0 e1 e2 e3 c1 c2 c3 HC0
      have HMN : Hid (∀ u : World, Calls Try.prog 11 #[.pointer none] u fun e w' => e = .returned (.agg #[.bool false, .bool false, .bool false, .bool false]) ∧ Below u.heap.size u w') := hide (fun u => members_nil u)
      have heq : ∀ u : World, (Op.equalIn 10000 22 (.agg #[.bool false, .bool false, .bool false, .bool false]) (.agg #[.bool false, .bool false, .bool false, .bool false])).run Try.prog u = .ok true u := fun u => eql_none (fun _ => false) u
      have hk3 : (kd = 3 ∨ kd = 4) ∨ (kd ≠ 3 ∧ kd ≠ 4) := by omega
      rcases hk3 with (rfl | rfl) | ⟨n3, n4⟩
      · rw [if_pos (.inl rfl)]
        go_wp2_with (first
          | (go_at_call 8; refine (local_nil 0 0 0 _).mono ?_; rintro _ w3 ⟨rfl, hb3⟩; have HB3 := hide ((unhide HB2).trans (hb3.mono (unhide HB2).size)); clear hb3)
          | (go_at_call 9; refine (applied_nil 0 0 0 _).mono ?_; rintro _ w4 ⟨rfl, hb4⟩; have HB4 := hide ((unhide HB3).trans (hb4.mono (unhide HB3).size)); clear hb4)
          | (go_at_call 10; refine (stable_nil 0 0 0 _).mono ?_; rintro _ w5 ⟨rfl, hb5⟩; have HB5 := hide ((unhide HB4).trans (hb5.mono (unhide HB4).size)); clear hb5)
          | (go_at_call 11; refine (unhide HMN _).mono ?_; rintro _ w6 ⟨rfl, hb6⟩; have HB6 := hide ((unhide HB5).trans (hb6.mono (unhide HB5).size)); clear hb6))
        exact ⟨⟨k + 1, by omega, by omega, by go_num, unhide HB6⟩, by simp [intOf]; omega⟩
      · rw [if_pos (.inr rfl)]
        go_wp2_with (first
          | (go_at_call 8; refine (local_nil 0 0 0 _).mono ?_; rintro _ w3 ⟨rfl, hb3⟩; have HB3 := hide ((unhide HB2).trans (hb3.mono (unhide HB2).size)); clear hb3)
          | (go_at_call 9; refine (applied_nil 0 0 0 _).mono ?_; rintro _ w4 ⟨rfl, hb4⟩; have HB4 := hide ((unhide HB3).trans (hb4.mono (unhide HB3).size)); clear hb4)
          | (go_at_call 10; refine (stable_nil 0 0 0 _).mono ?_; rintro _ w5 ⟨rfl, hb5⟩; have HB5 := hide ((unhide HB4).trans (hb5.mono (unhide HB4).size)); clear hb5)
          | (go_at_call 11; refine (unhide HMN _).mono ?_; rintro _ w6 ⟨rfl, hb6⟩; have HB6 := hide ((unhide HB5).trans (hb6.mono (unhide HB5).size)); clear hb6))
        exact ⟨⟨k + 1, by omega, by omega, by go_num, unhide HB6⟩, by simp [intOf]; omega⟩
      · rw [if_neg (by omega)]
        have f3 : (kd == 3) = false := beq_eq_false_iff_ne.2 n3
        have f4 : (kd == 4) = false := beq_eq_false_iff_ne.2 n4
        clear n3 n4
        go_wp2_with (first
          | (go_at_call 8; refine (local_nil 0 0 0 _).mono ?_; rintro _ w3 ⟨rfl, hb3⟩; have HB3 := hide ((unhide HB2).trans (hb3.mono (unhide HB2).size)); clear hb3)
          | (go_at_call 9; refine (applied_nil 0 0 0 _).mono ?_; rintro _ w4 ⟨rfl, hb4⟩; have HB4 := hide ((unhide HB3).trans (hb4.mono (unhide HB3).size)); clear hb4)
          | (go_at_call 10; refine (stable_nil 0 0 0 _).mono ?_; rintro _ w5 ⟨rfl, hb5⟩; have HB5 := hide ((unhide HB4).trans (hb5.mono (unhide HB4).size)); clear hb5)
          | (go_at_call 11; refine (unhide HMN _).mono ?_; rintro _ w6 ⟨rfl, hb6⟩; have HB6 := hide ((unhide HB5).trans (hb6.mono (unhide HB5).size)); clear hb6))
        exact ⟨⟨k + 1, by omega, by omega, by go_num, unhide HB6⟩, by simp [intOf]; omega⟩
    · rcases Nat.lt_or_ge k r.length with hlt | hlt
      all_goals
        go_wp2_with (go_at_call 7; refine (unhide HA _).mono ?_; rintro _ w5 ⟨rfl, hb5⟩; have HB5 := hide ((unhide HB).trans (hb5.mono (unhide HB).size)); clear hb5)
        go_ret
        exact ⟨rfl, unhide HB5⟩
end Go.Proofs.Ytmogoockhlfabaa
