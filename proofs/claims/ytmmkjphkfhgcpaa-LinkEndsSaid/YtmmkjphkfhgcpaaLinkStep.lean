/- What the calls of an end do, told of the end whole. -/
import Derived.Test.YtmmkjphkfhgcpaaLinkInQ
import Derived.Test.YtmmkjphkfhgcpaaLinkSmall
namespace Go.Proofs.Ytmmkjphkfhgcpaa
set_option linter.unusedVariables false
open Go.RowKit

/-- the bounds under which ends are used -/
structure Inv (s : LS) (K : Nat) : Prop where
  s0 : 0 ≤ s.sent
  g0 : 0 ≤ s.got
  sent : s.sent + s.r.length ≤ K
  got : s.got ≤ 17 * K
  n : s.n ≤ K
  q : s.r.length ≤ 4096
  win : ∀ c, (s.M c).isSome = true → s.got < c ∧ c ≤ s.got + 16
theorem Inv.mono {s : LS} {K K' : Nat} (h : Inv s K) (hk : K ≤ K') : Inv s K' :=
  ⟨h.s0, h.g0, by have := h.sent; omega, by have := h.got; omega, by have := h.n; omega, h.q, h.win⟩
/-- an end from s to s' -/
structure Stepped (w w' : World) (p : Nat) (s s' : LS) : Prop where
  at_ : EndAt w' p s'
  only : Only (Foot p s) w w'
  by_ : By w w'
  foot : ∀ k, Foot p s' k → Foot p s k ∨ w.heap.size ≤ k
theorem Stepped.refl {w : World} {p : Nat} {s : LS} (h : EndAt w p s) : Stepped w w p s s := ⟨h, Only.refl _ _, By.refl _, fun k hk => .inl hk⟩
theorem Stepped.of_new {w w' : World} {p : Nat} {s : LS} (h : EndAt w p s) (hb : Below w.heap.size w w') : Stepped w w' p s s := ⟨h.new hb, Only.of_new hb, By.of_new hb, fun k hk => .inl hk⟩
/-- another end stands -/
theorem Stepped.other {w w' : World} {p p2 : Nat} {s s' s2 : LS} (h : Stepped w w' p s s') (h2 : EndAt w p2 s2) (hd : ∀ k, Foot p2 s2 k → ¬ Foot p s k) : EndAt w' p2 s2 ∧ ∀ k, Foot p2 s2 k → ¬ Foot p s' k :=
  ⟨h2.only h.only h.by_ hd, fun k hk hk' => by
    rcases h.foot k hk' with h3 | h3
    · exact hd k hk h3
    · have := h2.foot k hk; omega⟩

theorem send_end (p : Nat) (s : LS) (body : List UInt8) (Ab : Option Addr) (c B : Nat) (w : World) (h : EndAt w p s) (hn : s.r.length < 4096) (hb : body.length ≤ 1048576) (hr : RdB w B Ab body) (hB : B ≤ w.heap.size) :
    Calls Try.prog 11 #[.pointer (some ⟨p, 0, none⟩), .slice Ab body.length c] w fun e w' => e = .returned (.int .i64 0) ∧
      ∃ wv x, x.1 = body ∧ (∀ ad, x.2.1 = some ad → w.heap.size ≤ ad.block) ∧ Stepped w w' p s { s with wv := wv, r := s.r ++ [x] } := by
  obtain ⟨Aw, cw, hwv, _⟩ := h.que.form
  have hblk := h.blk
  have hque := h.que
  have hap := h.apart
  rw [hwv] at hblk hque
  refine (send_walk p s.ep s.sent s.got Aw s.r.length cw s.m (rowOf s.r) body Ab c B w hblk hque hn hb hr hB).mono ?_
  rintro e w' ⟨rfl, A1, c1, Aw2, cw2, g1, g2, g3, g4, g5, g6, g7, g8, g9⟩
  rw [← hwv] at g7 g9
  have hon : Only (Foot p s) w w' := g7.mono fun k _ hk => hk.elim .inl fun hk => .inr (.inr hk)
  refine ⟨rfl, .slice Aw2 (s.r.length + 1) cw2, (body, A1, c1), rfl, g6, ⟨⟨g1, ?_, ?_, ?_, ?_⟩, hon, g8, ?_⟩⟩
  · show Qu w' 22 _ (s.r ++ [(body, A1, c1)]).length (rowOf (s.r ++ [(body, A1, c1)]))
    rw [rowOf, List.map_append, List.length_append]
    exact g2
  · intro y hy
    rcases List.mem_append.1 hy with hy | hy
    · exact (h.lie.by g8) y hy
    · obtain rfl := List.mem_singleton.1 hy
      exact ⟨g3, g4, hb⟩
  · exact Kp.only h.kp g7 (fun hk => by
      rcases hk with hk | hk
      · exact hap.1 hk.symm
      · exact hap.2.2 hk)
  · exact fun a x hx => (h.kept a x hx).by g8
  · intro k hk
    rcases hk with rfl | hk | hk
    · exact .inl (.inl rfl)
    · exact .inl (.inr (.inl hk))
    · rcases g9 with e | e
      · exact .inl (.inr (.inr (e ▸ hk)))
      · exact .inr (e k hk)

/-- what In answers, told of the end -/
def InSays (s : LS) (e sq a : Int) (b : List UInt8) (s' : LS) (q : Bodies) (er : Int) : Prop :=
  (e ≠ s.ep ∧ er = 5 ∧ q = [] ∧ s' = s) ∨
  (e = s.ep ∧ (a < 0 ∨ sq < 0 ∨ a - s.sent > min (s.r.length : Int) 16) ∧ er = 1 ∧ q = [] ∧ s' = s) ∨
  (e = s.ep ∧ 0 ≤ a ∧ 0 ≤ sq ∧ a - s.sent ≤ min (s.r.length : Int) 16 ∧ s'.ep = s.ep ∧ s'.sent = max s.sent a ∧ s'.r = s.r.drop (s'.sent - s.sent).toNat ∧ s'.m = s.m ∧
    ((sq ≤ s.got ∧ er = 0 ∧ q = [] ∧ s'.got = s.got ∧ s'.M = s.M) ∨ (s.got + 16 < sq ∧ er = 9 ∧ q = [] ∧ s'.got = s.got ∧ s'.M = s.M) ∨
      (s.got < sq ∧ sq ≤ s.got + 16 ∧ er = 0 ∧ s'.got = s.got + q.length ∧ ∃ M1 : Int → Option Body, (((s.M sq).isSome = true ∧ M1 = s.M) ∨ (s.M sq = none ∧ ∃ x : Body, x.1 = b ∧ M1 = upd s.M sq (some x))) ∧
        s'.M = (fun c => if s.got < c ∧ c ≤ s.got + q.length then none else M1 c) ∧ (∀ (i : Nat) (x : Body), q[i]? = some x → M1 (s.got + 1 + i) = some x) ∧ M1 (s.got + 1 + q.length) = none)))

/-- what is kept or answered was kept, or is new memory -/
def NewM (w : World) (s s' : LS) (q : Bodies) : Prop := ∀ x, ((∃ c, s'.M c = some x) ∨ x ∈ q) → (∃ c, s.M c = some x) ∨ ∀ ad, x.2.1 = some ad → w.heap.size ≤ ad.block
theorem NewM.same (w : World) (s : LS) : NewM w s s [] := fun x hx => hx.elim .inl fun h => by simp at h
theorem min_ite (n : Nat) : (if 16 < (n : Int) then (16 : Int) else (n : Int)) = min (n : Int) 16 := by split <;> omega

theorem in_end (p : Nat) (s : LS) (K : Nat) (v e sq a : Int) (A : Option Addr) (b : List UInt8) (c : Nat) (w : World) (h : EndAt w p s) (hi : Inv s K) (hK : K ≤ 1000000) (hr : ∀ u, Only (fun k => k = p) w u → RdB u w.heap.size A b) (hb : b.length ≤ 1048576)
    (ha : a ≤ 9223372036854775807) (hs : sq ≤ 9223372036854775807) :
    Calls Try.prog 14 #[.pointer (some ⟨p, 0, none⟩), .agg #[.int .i64 v, .int .i64 e, .int .i64 sq, .int .i64 a, .slice A b.length c]] w fun en w' => ∃ (s' : LS) (q : Bodies) (Ao : Option Addr) (co : Nat) (er : Int),
      en = .returned (.tuple #[.slice Ao q.length co, .int .i64 er]) ∧ w'.ownsRow w.heap.size 22 1 (.slice Ao q.length co) q.length (rowOf q) ∧ (∀ x ∈ q, Okb w' x) ∧ Stepped w w' p s s' ∧ Inv s' (K + 1) ∧ NewM w s s' q ∧ InSays s e sq a b s' q er := by
  obtain ⟨Aw, cw, hwv, hnc, hcm⟩ := h.que.form
  have hblk := h.blk
  have hque := h.que
  have hap := h.apart
  rw [hwv] at hblk hque
  have i1 := hi.s0; have i2 := hi.g0; have i3 := hi.sent; have i4 := hi.got; have i5 := hi.n; have i6 := hi.q
  have hcm' : cw ≤ 9223372036854775807 := by unfold maxLen at hcm; omega
  by_cases hee : e = s.ep
  · by_cases ha0 : a < 0
    · rw [hee]
      refine (in_refused1 p s.ep s.sent s.got Aw s.r.length cw s.m v sq a A b.length c w hblk i1 (by omega) i6 ha ha0).mono ?_
      rintro en w' ⟨rfl, hbel⟩
      exact ⟨s, [], none, 0, 1, rfl, own_nil _ _ _ _, fun x hx => by simp at hx, Stepped.of_new h hbel, hi.mono (by omega), NewM.same w s, .inr (.inl ⟨rfl, .inl ha0, rfl, rfl, rfl⟩)⟩
    by_cases hs0 : sq < 0
    · rw [hee]
      refine (in_refused2 p s.ep s.sent s.got Aw s.r.length cw s.m v sq a A b.length c w hblk i1 (by omega) i6 ha (by omega) hs0).mono ?_
      rintro en w' ⟨rfl, hbel⟩
      exact ⟨s, [], none, 0, 1, rfl, own_nil _ _ _ _, fun x hx => by simp at hx, Stepped.of_new h hbel, hi.mono (by omega), NewM.same w s, .inr (.inl ⟨rfl, .inr (.inl hs0), rfl, rfl, rfl⟩)⟩
    by_cases hlt : min (s.r.length : Int) 16 < a - s.sent
    · rw [hee]
      refine (in_refused3 p s.ep s.sent s.got Aw s.r.length cw s.m v sq a A b.length c w hblk i1 (by omega) i6 ha (by omega) (by omega) _ (min_ite _) hlt).mono ?_
      rintro en w' ⟨rfl, hbel⟩
      exact ⟨s, [], none, 0, 1, rfl, own_nil _ _ _ _, fun x hx => by simp at hx, Stepped.of_new h hbel, hi.mono (by omega), NewM.same w s, .inr (.inl ⟨rfl, .inr (.inr hlt), rfl, rfl, rfl⟩)⟩
    · obtain ⟨wv2, sent2, hcut, hq2, hs2, hfo⟩ : ∃ wv2 sent2, Cut Aw s.r.length cw s.sent a wv2 sent2 ∧ Qu w 22 wv2 (s.r.drop (sent2 - s.sent).toNat).length (rowOf (s.r.drop (sent2 - s.sent).toNat)) ∧ sent2 = max s.sent a ∧ (∀ k, wv2.ownBlock = some k → s.wv.ownBlock = some k) := by
        by_cases hac : a ≤ s.sent
        · refine ⟨.slice Aw s.r.length cw, s.sent, .inl ⟨hac, rfl, rfl⟩, ?_, by omega, fun k hk => by rw [hwv]; exact hk⟩
          rw [Int.sub_self]
          exact hque
        · obtain ⟨d, hd⟩ : ∃ d : Nat, a - s.sent = d := ⟨(a - s.sent).toNat, by omega⟩
          have hqr := hque
          rcases hqr.2 with ⟨e0, e1⟩ | ⟨g, off, cap, cur, e0, _⟩
          · omega
          · injection e0 with e0 _ e2
            subst e0
            by_cases hdc : d < cw
            · refine ⟨.slice (some ⟨g, off + d, none⟩) (s.r.length - d) (cw - d), a, .inr ⟨by omega, rfl, g, off, d, rfl, hd, by omega, by omega, .inl ⟨hdc, rfl⟩⟩, ?_, by omega, fun k hk => by rw [hwv]; exact hk⟩
              rw [hd, Int.toNat_natCast, List.length_drop, rowOf, List.map_drop]
              exact hque.cut (by omega) hdc
            · refine ⟨.slice (some ⟨g, off, none⟩) 0 0, a, .inr ⟨by omega, rfl, g, off, d, rfl, hd, by omega, by omega, .inr ⟨by omega, rfl⟩⟩, ?_, by omega, fun k hk => by rw [hwv]; exact hk⟩
              rw [hd, Int.toNat_natCast, List.length_drop, show s.r.length - d = 0 by omega, List.drop_eq_nil_of_le (by omega)]
              exact hque.cutAll
      have hwn : s.M (s.got + 17) = none := by
        rcases hm : s.M (s.got + 17) with _ | x
        · rfl
        · have := hi.win (s.got + 17) (by rw [hm]; rfl)
          omega
      rw [hee]
      refine (in_walk p s.ep s.sent s.got Aw s.r.length cw s.m s.n s.M v sq a A b c wv2 sent2 w hblk h.kp (by omega) hr hb i1 (by omega) i2 (by omega) i6 hnc hcm' (by omega) (by omega) ha hs hwn _ (min_ite _) (by omega) hcut).mono ?_
      rintro en w' ⟨j, Ao, co, q, er, M', n', rfl, hql, hrow, hb2, hk2, hn2, hon, hby, hcase⟩
      subst hql
      have hj : q.length ≤ 16 ∧ (∀ x ∈ q, Okb w' x) ∧ (∀ c, (M' c).isSome = true → s.got + q.length < c ∧ c ≤ s.got + q.length + 16) ∧ (∀ a x, M' a = some x → Okb w' x) ∧ (∀ x, ((∃ c, M' c = some x) ∨ x ∈ q) → (∃ c, s.M c = some x) ∨ ∀ ad, x.2.1 = some ad → w.heap.size ≤ ad.block) := by
        rcases hcase with ⟨_, _, h0, rfl⟩ | ⟨_, _, h0, rfl⟩ | ⟨c1, c2, _, M1, hM1, rfl, hq, hnone⟩
        · obtain rfl := List.eq_nil_of_length_eq_zero h0
          exact ⟨by simp, fun x hx => by simp at hx, by simpa using hi.win, fun a x hx => (h.kept a x hx).by hby, fun x hx => hx.elim .inl fun h => by simp at h⟩
        · obtain rfl := List.eq_nil_of_length_eq_zero h0
          exact ⟨by simp, fun x hx => by simp at hx, by simpa using hi.win, fun a x hx => (h.kept a x hx).by hby, fun x hx => hx.elim .inl fun h => by simp at h⟩
        · have hw1 : ∀ c, (M1 c).isSome = true → s.got < c ∧ c ≤ s.got + 16 := by
            intro c hc
            rcases hM1 with ⟨_, rfl⟩ | ⟨_, x, _, _, _, rfl⟩
            · exact hi.win c hc
            · by_cases hcs : c = sq
              · omega
              · rw [upd_other s.M _ hcs] at hc
                exact hi.win c hc
          have ho1 : ∀ c x, M1 c = some x → Okb w' x := by
            intro c y hc
            rcases hM1 with ⟨_, rfl⟩ | ⟨_, x, _, hx, _, rfl⟩
            · exact (h.kept c y hc).by hby
            · by_cases hcs : c = sq
              · rw [hcs, upd_same] at hc
                injection hc with hc
                exact hc ▸ hx
              · rw [upd_other s.M _ hcs] at hc
                exact (h.kept c y hc).by hby
          have hnew : ∀ c x, M1 c = some x → (∃ c, s.M c = some x) ∨ ∀ ad, x.2.1 = some ad → w.heap.size ≤ ad.block := by
            intro c y hc
            rcases hM1 with ⟨_, rfl⟩ | ⟨_, x, _, _, hx, rfl⟩
            · exact .inl ⟨c, hc⟩
            · by_cases hcs : c = sq
              · rw [hcs, upd_same] at hc
                injection hc with hc
                exact .inr (hc ▸ hx)
              · rw [upd_other s.M _ hcs] at hc
                exact .inl ⟨c, hc⟩
          refine ⟨?_, fun x hx => ?_, fun c hc => ?_, fun a x hx => ?_, fun x hx => ?_⟩
          · rcases Nat.lt_or_ge 16 q.length with hl | hl
            · have := hw1 _ (by rw [hq 16 _ (List.getElem?_eq_getElem hl)]; rfl)
              omega
            · exact hl
          · obtain ⟨i, hi⟩ := List.mem_iff_getElem?.1 hx
            exact ho1 _ x (hq i x hi)
          · dsimp only at hc
            by_cases hcc : s.got < c ∧ c ≤ s.got + q.length
            · rw [if_pos hcc] at hc
              cases hc
            · rw [if_neg hcc] at hc
              have := hw1 c hc
              omega
          · dsimp only at hx
            by_cases hcc : s.got < a ∧ a ≤ s.got + q.length
            · rw [if_pos hcc] at hx
              cases hx
            · rw [if_neg hcc] at hx
              exact ho1 a x hx
          · rcases hx with ⟨c, hc⟩ | hx
            · dsimp only at hc
              by_cases hcc : s.got < c ∧ c ≤ s.got + q.length
              · rw [if_pos hcc] at hc
                cases hc
              · rw [if_neg hcc] at hc
                exact hnew c x hc
            · obtain ⟨i, hi⟩ := List.mem_iff_getElem?.1 hx
              exact hnew _ x (hq i x hi)
      obtain ⟨hj1, hj2, hj3, hj4, hj5⟩ := hj
      have hdl : (s.r.drop (sent2 - s.sent).toNat).length = s.r.length - (sent2 - s.sent).toNat := List.length_drop
      refine ⟨⟨s.ep, wv2, s.r.drop (sent2 - s.sent).toNat, sent2, s.got + q.length, s.m, n', M'⟩, q, Ao, co, er, rfl, hrow, hj2, ⟨⟨hb2, ?_, ?_, hk2, hj4⟩, ?_, hby, ?_⟩, ⟨?_, ?_, ?_, ?_, ?_, ?_, hj3⟩, hj5, ?_⟩
      · refine hq2.only hon fun k hk => ?_
        have := hfo k hk
        rintro (rfl | rfl)
        · exact hap.2.1 this
        · exact hap.2.2 this
      · exact fun x hx => (h.lie.by hby) x (List.mem_of_mem_drop hx)
      · exact hon.mono fun k _ hk => hk.elim .inl fun hk => .inr (.inl hk)
      · rintro k (hk | hk | hk)
        · exact .inl (.inl hk)
        · exact .inl (.inr (.inl hk))
        · exact .inl (.inr (.inr (hfo k hk)))
      · show 0 ≤ sent2; omega
      · show 0 ≤ s.got + q.length; omega
      · show sent2 + ((s.r.drop (sent2 - s.sent).toNat).length : Int) ≤ ((K + 1 : Nat) : Int)
        rw [hdl]; omega
      · show s.got + q.length ≤ 17 * ((K + 1 : Nat) : Int); omega
      · show n' ≤ K + 1; omega
      · show (s.r.drop (sent2 - s.sent).toNat).length ≤ 4096; omega
      · refine .inr (.inr ⟨rfl, by omega, by omega, by omega, rfl, hs2, rfl, rfl, ?_⟩)
        rcases hcase with ⟨c1, c2, h0, rfl⟩ | ⟨c1, c2, h0, rfl⟩ | ⟨c1, c2, c3, M1, hM1, rfl, hq, hnone⟩
        · obtain rfl := List.eq_nil_of_length_eq_zero h0
          exact .inl ⟨c1, c2, rfl, by simp, rfl⟩
        · obtain rfl := List.eq_nil_of_length_eq_zero h0
          exact .inr (.inl ⟨c1, c2, rfl, by simp, rfl⟩)
        · refine .inr (.inr ⟨c1, c2, c3, rfl, M1, ?_, rfl, hq, hnone⟩)
          rcases hM1 with hM1 | ⟨hM, x, hx, _, _, hM1⟩
          · exact .inl hM1
          · exact .inr ⟨hM, x, hx, hM1⟩
  · refine (in_alien p s.ep s.sent s.got s.wv s.m v e sq a A b.length c w h.blk hee).mono ?_
    rintro en w' ⟨rfl, hbel⟩
    exact ⟨s, [], none, 0, 5, rfl, own_nil _ _ _ _, fun x hx => by simp at hx, Stepped.of_new h hbel, hi.mono (by omega), NewM.same w s, .inl ⟨hee, rfl, rfl, rfl⟩⟩
end Go.Proofs.Ytmmkjphkfhgcpaa
