/- Spoil, Take, Look, of both nets. -/
import Derived.Test.YtbclfiollfagmaaNetPair
namespace Go.Proofs.Ytbclfiollfagmaa
set_option linter.unusedVariables false
open Go.RowKit

section
variable {o : NOp} {B p q Bb : Nat} {s : NS} {d : DS}
theorem pair_spoil (h : Rel s d) (hk : o.kd = 6) (hs : d.row.length ≤ 100000) (hlo : -9223372036854775808 ≤ o.i) (hhi : o.i ≤ 9223372036854775807) : PairI o B p q Bb s d 16 35 [.int .i64 o.f, .int .i64 o.t, .int .i64 o.i, .int .i64 o.at_, .int .u8 (o.m.toNat : Int)] := by
  rcases on_or o s with ⟨a, b, hf, ht, ha, hb, hab, hon⟩ | hbad
  · obtain ⟨k, x, pre, post, y, fd⟩ := h.found ha hb hon
    have hr2 : Rt (a : Int) (b : Int) := by rw [← hf, ← ht]; exact rt_of hf ht ha hb hab
    have hxy : x.1.1 = y.2.1.1 ∧ x.2 = y.2.2 := by
      have := fd.same
      simp only [pdat, ddat, Prod.mk.injEq] at this
      exact this
    have hg := fd.getD
    have hw0 : wayDo o (s.dat (a * 21 + b)) = if o.bad (ddat y) ∨ (ddat y).2 = true then s.dat (a * 21 + b) else (s.dat (a * 21 + b)).set o.i.toNat ((ddat y).1.set o.at_.toNat ((ddat y).1[o.at_.toNat]! ^^^ o.m), true) := by
      rw [wayDo, if_neg (by omega), if_pos hon]
      simp only [hg]
      rw [if_neg (by omega), if_neg (by omega), if_neg (by omega), if_neg (by omega), if_pos hk]
    have rest5 : ∀ (f t i at_ : Int) (m : UInt8) (g : Value), (g :: [Value.int .i64 f, .int .i64 t, .int .i64 i, .int .i64 at_, .int .u8 (m.toNat : Int)]).toArray = #[g, .int .i64 f, .int .i64 t, .int .i64 i, .int .i64 at_, Bv m] := fun _ _ _ _ _ _ => rfl
    by_cases hb1 : o.at_ < 0 ∨ (x.1.1.length : Int) ≤ o.at_ ∨ o.m = 0
    · refine ⟨1, fun s' => s' = s, fun d' => d' = d, fun u hu _ _ => ?_, fun u hu _ _ => ?_, ?_⟩
      · rw [rest5, hf, ht, fd.i]
        exact (spoil_arg B p s a b k o.at_ o.m x u hu ha hb hab fd.x_ hb1).mono fun e w' h => NP.of_err hu (ErrN.same h)
      · rw [rest5, show o.i = ((way a b pre).length : Int) by rw [fd.i, fd.k_], hf, ht]
        exact (dspoil_arg B q d a b pre post y o.at_ o.m u hu hu.base hs hr2 fd.row fd.y_ (by rw [← hxy.1]; exact hb1)).mono fun e w' h => DPp.of_err hu h
      · refine After.same h hf ht ?_
        have hb2 : o.bad (ddat y) := by
          show o.at_ < 0 ∨ (y.2.1.1.length : Int) ≤ o.at_ ∨ o.m = 0
          rw [← hxy.1]
          exact hb1
        rw [hw0, if_pos (.inl hb2)]
    · obtain ⟨n, hn⟩ : ∃ n : Nat, o.at_ = n := ⟨o.at_.toNat, by omega⟩
      have hn1 : n < x.1.1.length := by omega
      have hm : o.m ≠ 0 := fun e => hb1 (.inr (.inr e))
      by_cases hsp : x.2 = true
      · refine ⟨8, fun s' => s' = s, fun d' => d' = d, fun u hu _ _ => ?_, fun u hu _ _ => ?_, ?_⟩
        · rw [rest5, hf, ht, fd.i, hn]
          exact (spoil_there B p s a b k n o.m x u hu ha hb hab fd.x_ hn1 hm hsp).mono fun e w' h => NP.of_err hu (ErrN.same h)
        · rw [rest5, show o.i = ((way a b pre).length : Int) by rw [fd.i, fd.k_], hf, ht, hn]
          exact (dspoil_there B q d a b pre post y n o.m u hu hu.base hs hr2 fd.row fd.y_ (by rw [← hxy.1]; exact hn1) hm (by rw [← hxy.2]; exact hsp)).mono fun e w' h => DPp.of_err hu h
        · refine After.same h hf ht ?_
          have hb2 : (ddat y).2 = true := by
            show y.2.2 = true
            rw [← hxy.2]
            exact hsp
          rw [hw0, if_pos (.inr hb2)]
      · have hsf : x.2 = false := by simpa using hsp
        have hsy : y.2.2 = false := by rw [← hxy.2]; exact hsf
        refine ⟨0, fun s' => s' = s.put (a * 21 + b) ⟨(s.ways (a * 21 + b)).A, (s.ways (a * 21 + b)).c, (s.ways (a * 21 + b)).ps.set k ((x.1.1.set n (x.1.1[n]! ^^^ o.m), x.1.2), true)⟩, fun d' => ∃ A5 c5 A4 c4, d' = ⟨A5, c5, pre ++ (y.1, ((y.2.1.1.set n (y.2.1.1[n]! ^^^ o.m), A4, c4), true)) :: post, d.lost⟩, fun u hu _ _ => ?_, fun u hu _ _ => ?_, ?_⟩
        · rw [rest5, hf, ht, fd.i, hn]
          exact (spoil_ok B p s a b k n o.m x u hu ha hb hab fd.x_ hn1 hm hsf).mono fun e w' ⟨h1, h2⟩ => ⟨_, h1, h2, rfl⟩
        · rw [rest5, show o.i = ((way a b pre).length : Int) by rw [fd.i, fd.k_], hf, ht, hn]
          exact (dspoil_ok B q d a b pre post y n o.m u hu hu.base hs hr2 fd.row fd.y_ (by rw [← hxy.1]; exact hn1) hm hsy).mono fun e w' ⟨h1, A5, c5, A4, c4, h2⟩ => ⟨_, h1, h2, A5, c5, A4, c4, rfl⟩
        · rintro _ _ rfl ⟨A5, c5, A4, c4, rfl⟩
          have hw : wayDo o (s.dat (a * 21 + b)) = (s.dat (a * 21 + b)).set o.i.toNat (y.2.1.1.set n (y.2.1.1[n]! ^^^ o.m), true) := by
            rw [hw0, if_neg]
            · rw [hn]
              rfl
            · rintro (h1 | h1)
              · refine hb1 ?_
                have h1 : o.at_ < 0 ∨ (y.2.1.1.length : Int) ≤ o.at_ ∨ o.m = 0 := h1
                rw [hxy.1]
                exact h1
              · have h1 : y.2.2 = true := h1
                rw [hsy] at h1
                cases h1
          have := After.put (o := o) h hf ht ha hb hab ⟨(s.ways (a * 21 + b)).A, (s.ways (a * 21 + b)).c, (s.ways (a * 21 + b)).ps.set k ((x.1.1.set n (x.1.1[n]! ^^^ o.m), x.1.2), true)⟩ s.lost (pre ++ (y.1, ((y.2.1.1.set n (y.2.1.1[n]! ^^^ o.m), A4, c4), true)) :: post) A5 c5 (.inl rfl) (by
            rw [hw, fd.i, Int.toNat_natCast, NS.dat, List.map_set]
            rw [← hxy.1]
            rfl) (by
            rw [hw, ← fd.set (y.1, ((y.2.1.1.set n (y.2.1.1[n]! ^^^ o.m), A4, c4), true)) fd.y_]
            rfl) (fun f t hft => by rw [fd.row]; exact way_set_other a b f t pre post y _ fd.y_ (by exact fd.y_) hft) (fun z hz => by
            rcases List.mem_append.1 hz with hz | hz
            · exact (fd.rt h).1 z (List.mem_append_left _ hz)
            · rcases List.mem_cons.1 hz with rfl | hz
              · exact (fd.rt h).2
              · exact (fd.rt h).1 z (List.mem_append_right _ hz)) (by rw [fd.row]; simp)
          rw [show (⟨A5, c5, pre ++ (y.1, ((y.2.1.1.set n (y.2.1.1[n]! ^^^ o.m), A4, c4), true)) :: post, d.lost⟩ : DS) = ⟨A5, c5, pre ++ (y.1, ((y.2.1.1.set n (y.2.1.1[n]! ^^^ o.m), A4, c4), true)) :: post, s.lost⟩ by rw [h.lost]]
          exact this
  · obtain ⟨er, he⟩ := h.errs (B := B) (p := p) (q := q) hs hlo hhi hbad
    exact ⟨er, fun s' => s' = s, fun d' => d' = d, fun u hu _ _ => (spoil_bad _ o.f o.t o.i o.at_ o.m er u (he.at_ u hu) he.ne).mono fun e w' h => NP.of_err hu (ErrN.same h), fun u hu _ _ => (dspoil_bad q o.f o.t o.i o.at_ o.m er u (he.find u hu) he.ne).mono fun e w' h => DPp.of_err hu (ErrN.same h), still_of h (by omega) hbad⟩
theorem pair_take (h : Rel s d) (hk : o.kd = 2) (hs : d.row.length ≤ 100000) (hlo : -9223372036854775808 ≤ o.i) (hhi : o.i ≤ 9223372036854775807) : PairT o B p q s d 18 31 [.int .i64 o.f, .int .i64 o.t, .int .i64 o.i] := by
  rcases on_or o s with ⟨a, b, hf, ht, ha, hb, hab, hon⟩ | hbad
  · obtain ⟨k, x, pre, post, y, fd⟩ := h.found ha hb hon
    have hr2 : Rt (a : Int) (b : Int) := by rw [← hf, ← ht]; exact rt_of hf ht ha hb hab
    have hxy : x.1.1 = y.2.1.1 ∧ x.2 = y.2.2 := by
      have := fd.same
      simp only [pdat, ddat, Prod.mk.injEq] at this
      exact this
    refine ⟨x.1.1, x.2, 0, fun s' => ∃ A3 c3, s' = s.put (a * 21 + b) ⟨A3, c3, (s.ways (a * 21 + b)).ps.eraseIdx k⟩, fun d' => ∃ A3 c3, d' = ⟨A3, c3, pre ++ post, d.lost⟩, fun u hu => ?_, fun u hu => ?_, ?_⟩
    · rw [rest3, hf, ht, fd.i]
      exact (take_yes B p s a b k x u hu ha hb hab fd.x_).mono fun e w' ⟨A2, c2, A3, c3, h1, h2, h3⟩ => ⟨_, A2, c2, h1, h2, h3, A3, c3, rfl⟩
    · rw [rest3, show o.i = ((way a b pre).length : Int) by rw [fd.i, fd.k_], hf, ht, hxy.1, hxy.2]
      exact (dtake_yes B q d a b pre post y u hu hu.base hs hr2 fd.row fd.y_).mono fun e w' ⟨A2, c2, A3, c3, h1, h2, h3⟩ => ⟨_, A2, c2, _, _, h1, h2, h3, A3, c3, rfl⟩
    · rintro _ _ ⟨A3, c3, rfl⟩ ⟨A5, c5, rfl⟩
      have := fd.cut h hf ht ha hb hab s.lost (.inl rfl) (by rw [wayDo, if_neg (by omega), if_pos hon]; simp [hk]) A3 c3 A5 c5
      rw [show (⟨A5, c5, pre ++ post, d.lost⟩ : DS) = ⟨A5, c5, pre ++ post, s.lost⟩ by rw [h.lost]]
      exact this
  · obtain ⟨er, he⟩ := h.errs (B := B) (p := p) (q := q) hs hlo hhi hbad
    exact ⟨[], false, er, fun s' => s' = s, fun d' => d' = d, fun u hu => (he.take u hu).mono fun e w' h => NT.of_err hu h, fun u hu => (he.dtake u hu).mono fun e w' h => DT.of_err hu h, still_of h (by omega) hbad⟩
theorem pair_look (h : Rel s d) (hk : o.kd ≠ 1 ∧ o.kd ≠ 2 ∧ o.kd ≠ 3 ∧ o.kd ≠ 4 ∧ o.kd ≠ 5 ∧ o.kd ≠ 6) (hs : d.row.length ≤ 100000) (hlo : -9223372036854775808 ≤ o.i) (hhi : o.i ≤ 9223372036854775807) : PairT o B p q s d 17 36 [.int .i64 o.f, .int .i64 o.t, .int .i64 o.i] := by
  rcases on_or o s with ⟨a, b, hf, ht, ha, hb, hab, hon⟩ | hbad
  · obtain ⟨k, x, pre, post, y, fd⟩ := h.found ha hb hon
    have hr2 : Rt (a : Int) (b : Int) := by rw [← hf, ← ht]; exact rt_of hf ht ha hb hab
    have hxy : x.1.1 = y.2.1.1 ∧ x.2 = y.2.2 := by
      have := fd.same
      simp only [pdat, ddat, Prod.mk.injEq] at this
      exact this
    refine ⟨x.1.1, x.2, 0, fun s' => s' = s, fun d' => d' = d, fun u hu => ?_, fun u hu => ?_, ?_⟩
    · rw [rest3, hf, ht, fd.i]
      exact (look_yes B p s a b k x u hu ha hb hab fd.x_).mono fun e w' ⟨A2, c2, h1, h2⟩ => ⟨s, A2, c2, h1, NStep.of_new hu h2.2, h2.1, rfl⟩
    · rw [rest3, show o.i = ((way a b pre).length : Int) by rw [fd.i, fd.k_], hf, ht, hxy.1, hxy.2]
      exact (dlook_yes B q d a b pre post y u hu hu.base hs hr2 fd.row fd.y_).mono fun e w' ⟨A2, c2, h1, h2⟩ => ⟨d, A2, c2, _, _, h1, DStep.of_new hu h2.2, h2.1, rfl⟩
    · exact After.same h hf ht (by
        rw [wayDo, if_neg hk.1, if_pos hon]
        simp [hk])
  · obtain ⟨er, he⟩ := h.errs (B := B) (p := p) (q := q) hs hlo hhi hbad
    exact ⟨[], false, er, fun s' => s' = s, fun d' => d' = d, fun u hu => (he.look u hu).mono fun e w' h => NT.of_err hu h, fun u hu => (he.dlook u hu).mono fun e w' h => DT.of_err hu h, still_of h hk.1 hbad⟩
end
end Go.Proofs.Ytbclfiollfagmaa
