/- Take. -/
import Derived.Test.YtbclfiollfagmaaNetWithout
import Derived.Test.YtbclfiollfagmaaNetSpoilt
namespace Go.Proofs.Ytbclfiollfagmaa
set_option linter.unusedVariables false
open Go.RowKit

abbrev zeroPk : Array Value := #[.slice none 0 0, .bool false]
theorem NStep.beside {w w1 w' : World} {B p x : Nat} {s s' : NS} (h : NStep w w1 B p s s') (ho : Only (fun g => g = x) w1 w') (hx : w.heap.size ≤ x) (hnf : ¬ NFoot p s' x) : NStep w w' B p s s' :=
  ⟨h.at_.only ho fun g hg e => hnf (e ▸ hg), h.only.trans' ho fun g e => .inr (e ▸ hx), h.foot⟩
/-- new bytes beside a net of which a packet went lie apart from it -/
theorem apart_dropped {w w' : World} {B p i k n : Nat} {s : NS} {A3 : Option Addr} {c3 : Nat} {v : Value} {xs : List Value} (h : NetAt w B p s) (h' : NetAt w' B p (s.put i ⟨A3, c3, (s.ways i).ps.eraseIdx k⟩)) (ho : w'.ownsRow w.heap.size 5 1 v n xs) {g : Nat} (hg : v.ownBlock = some g) : ¬ NFoot p (s.put i ⟨A3, c3, (s.ways i).ps.eraseIdx k⟩) g := fun hf => by
  obtain ⟨cur, hb⟩ := own_blk ho hg
  have hge := (ho.lt g hg).1
  rcases hf with rfl | ⟨j, hj, hf⟩ | ⟨j, m, z, hj, hz, hf⟩
  · exact absurd (blk_type h'.blk hb) (by decide)
  · obtain ⟨cur2, hb2⟩ := own_blk (h'.row j hj) hf
    exact absurd (blk_type hb2 hb) (by decide)
  · have : g < w.heap.size := by
      by_cases hji : j = i
      · subst hji
        rw [NS.put_same] at hz
        have hz : ((s.ways j).ps.eraseIdx k)[m]? = some z := hz
        rw [List.getElem?_eraseIdx] at hz
        split at hz
        · exact (h.foot (.inr (.inr ⟨j, _, z, hj, hz, hf⟩))).2
        · exact (h.foot (.inr (.inr ⟨j, _, z, hj, hz, hf⟩))).2
      · rw [NS.put_other s _ hji] at hz
        exact (h.foot (.inr (.inr ⟨j, m, z, hj, hz, hf⟩))).2
    omega
def ErrPk (w : World) (er : Int) (e : Ending) (w' : World) : Prop := e = .returned (.tuple #[.agg #[.slice none 0 0, .bool false], .int .i64 er]) ∧ Below w.heap.size w w'
theorem take_bad (q : Value) (f t i er : Int) (w : World) (hl : ∀ u, Below w.heap.size w u → Calls Try.prog 17 #[q, .int .i64 f, .int .i64 t, .int .i64 i] u (ErrPk u er)) (he : er ≠ 0) :
    Calls Try.prog 18 #[q, .int .i64 f, .int .i64 t, .int .i64 i] w (ErrPk w er) := by
  have HM0 := hide ((Mem.start w).new (t := 36) (cs := #[.slice none 0 0, .bool false]) w.heap.size rfl)
  have HL := hide (hl _ (unhide HM0).below)
  have f1 : (er == 0) = false := beq_eq_false_iff_ne.2 he
  clear hl he
  go_enter Try.func18, Try.ntmps18
  go_wp2_with (first
    | (go_at_call 17; refine (unhide HL).mono ?_; rintro _ w2 ⟨rfl, hb2⟩; have HM1 := hide ((unhide HM0).called hb2); have HM2 := hide ((unhide HM1).new (t := 36) (cs := #[.slice none 0 0, .bool false]) w2.heap.size rfl); clear hb2)
    | (refine wpList_store_blk rfl 36 (.tmp 10) (.tmp 18) rfl (w2.heap.size) _ (by rfl) (by rfl) 36 _ (unhide HM2).blk0 (by kernel_rfl) (by rfl) (by simp [Value.oneCell']) ?_; intro w3 hbS hgS; have HM3 := hide ((unhide HM2).grown0 hbS hgS); have HGw3 := hide hgS; clear hbS hgS)
    | (refine wpList_load_blk rfl 36 (.tmp 10) rfl (w2.heap.size) rfl 36 _ _ ((unhide HM3).blk0) Try.underlying36 rfl (by kernel_rfl) ?_)
    | (refine wpList_store_blk rfl 36 (.tmp 8) (.tmp 39) rfl (w.heap.size) _ (by rfl) (by rfl) 36 _ (unhide HM3).blk1 (by kernel_rfl) (by rfl) (by simp [Value.oneCell']) ?_; intro w4 hbS hgS; have HM4 := hide ((unhide HM3).grown1 hbS hgS); have HGw4 := hide hgS; clear hbS hgS))
  exact ret_pk rfl w.heap.size _ rfl rfl (unhide HM4).blk1 rfl ⟨rfl, (unhide HM4).below⟩
def TakenP (w : World) (B p : Nat) (s : NS) (i k : Nat) (x : Pk) (e : Ending) (w' : World) : Prop := ∃ A2 c2 A3 c3, e = .returned (.tuple #[.agg #[.slice A2 x.1.1.length c2, .bool x.2], .int .i64 0]) ∧ NStep w w' B p s (s.put i ⟨A3, c3, (s.ways i).ps.eraseIdx k⟩) ∧ w'.ownsRow w.heap.size 5 1 (.slice A2 x.1.1.length c2) x.1.1.length (x.1.1.map Bv)
set_option maxHeartbeats 4000000 in
set_option maxRecDepth 20000 in
theorem take_yes (B p : Nat) (s : NS) (a b k : Nat) (x : Pk) (w : World) (h : NetAt w B p s) (ha : a ≤ 20) (hb : b ≤ 20) (hab : a ≠ b) (hx : (s.ways (a * 21 + b)).ps[k]? = some x) :
    Calls Try.prog 18 #[.pointer (some ⟨p, 0, none⟩), .int .i64 (a : Int), .int .i64 (b : Int), .int .i64 (k : Int)] w (TakenP w B p s (a * 21 + b) k x) := by
  have hkl := (List.getElem?_eq_some_iff.1 hx).1
  have hlt : a * 21 + b < 441 := by omega
  have hal : Below w.heap.size w (w.alloc (.cells #[.slice none 0 0, .bool false] 36)) := (Below.refl _ _).alloc (Nat.le_refl _) _
  have HM0 := hide ((Mem.start w).new (t := 36) (cs := #[.slice none 0 0, .bool false]) w.heap.size rfl)
  have HN := hide h
  have hpl := h.blk.lt
  have hBs : B ≤ w.heap.size := Nat.le_of_lt (Nat.lt_of_le_of_lt h.ge h.blk.lt)
  obtain ⟨g, cap, hv, hgb, hgl⟩ := (h.row _ hlt).form (by omega)
  have hA : (s.ways (a * 21 + b)).A = some ⟨g, 0, none⟩ := by injection hv
  obtain ⟨w1, hw1⟩ : ∃ u, w.alloc (.cells #[.slice none 0 0, .bool false] 36) = u := ⟨_, rfl⟩
  have hs1 : w1.heap.size = w.heap.size + 1 := by rw [← hw1]; simp
  have HS1 := hide hs1
  have HL := hide (look_yes B p s a b k x w1 (hw1 ▸ h.new hal) ha hb hab hx)
  rw [hw1] at HM0
  have hrw := h.row _ hlt
  have hcap := own_cap hrw
  have hle : (s.ways (a * 21 + b)).ps.length ≤ (s.ways (a * 21 + b)).c := by
    obtain ⟨A', c', e1, e2, _⟩ := own_form hrw
    injection e1 with _ _ e1
    omega
  have hfew := h.few _ hlt
  have hi0 : (0 : Int) ≤ (a : Int) := by omega
  have hi1 : (a : Int) < 21 := by omega
  have hi2 : (0 : Int) ≤ (b : Int) := by omega
  have hi3 : (b : Int) < 21 := by omega
  clear h hab hv hgb hgl hrw hs1 hal hx
  go_enter Try.func18, Try.ntmps18
  go_upto_region 3 with (first
    | (go_at_call 17; refine (unhide HL).mono ?_; rintro _ w2 ⟨A2, c2, rfl, ho2, hb2⟩; have HO2 := hide (ho2.alloc (.cells #[.slice none 0 0, .bool false] 36)); have HOL := hide (fun k hk => (ho2.lt k hk).2); have HM1 := hide ((unhide HM0).called hb2); have HM2 := hide ((unhide HM1).new (t := 36) (cs := #[.slice none 0 0, .bool false]) w2.heap.size rfl); clear ho2 hb2)
    | (refine wpList_store_blk rfl 36 (.tmp 10) (.tmp 18) rfl (w2.heap.size) _ (by rfl) (by rfl) 36 _ (unhide HM2).blk0 (by kernel_rfl) (by rfl) (by simp [Value.oneCell']) ?_; intro w3 hbS hgS; have HM3 := hide ((unhide HM2).grown0 hbS hgS); have HGw3 := hide hgS; clear hbS hgS))
  have ho3 : w3.ownsRow w1.heap.size 5 1 (.slice A2 x.1.1.length c2) x.1.1.length (x.1.1.map Bv) := (unhide HO2).kept (unhide HGw3) (.inr fun e => Nat.lt_irrefl _ ((unhide HOL) _ e))
  have HO3 := hide ho3
  have hn3 := (unhide HN).new (unhide HM3).below
  have HN3 := hide hn3
  have fc3 : w3.cell? ⟨p, a * 21 + b, none⟩ = some (.slice (some ⟨g, 0, none⟩) (s.ways (a * 21 + b)).ps.length (s.ways (a * 21 + b)).c) := by rw [hn3.cell hlt, hdr, hA]
  have hrow3 := hn3.row _ hlt
  rw [hdr, hA] at hrow3
  have HW : Hid (Calls Try.prog 29 #[.slice (some ⟨g, 0, none⟩) (s.ways (a * 21 + b)).ps.length (s.ways (a * 21 + b)).c, .int .i64 (k : Int)] w3.drew (WithoutP w3.drew ((s.ways (a * 21 + b)).ps.eraseIdx k))) :=
    hide (without_any _ g _ k w3.heap.size w3.drew (RdV.of_own hrow3) (Nat.le_refl _) hkl hfew hle hcap)
  have HP3 : Hid (p < w3.heap.size) := hide hn3.blk.lt
  clear ho3 hn3 hrow3
  go_region_law (go_simp; go_at_call 29; refine (unhide HW).mono ?_; rintro _ w5 ⟨A3, c3, rfl, ho5, hb5⟩
                 have hb5' : Below w3.heap.size w3 w5 := ⟨hb5.os, hb5.tape, hb5.output, hb5.size, hb5.block⟩
                 have HO5 := hide ho5; have HB5 := hide hb5'; have fz5 := ((unhide HN3).new hb5').blk.frozen (a * 21 + b); have fc5 := ((unhide HN3).new hb5').cell hlt; have HM5 := hide ((unhide HM3).called hb5'); clear ho5 hb5 hb5')
  all_goals
    have HD := hide ((unhide HN3).drop hlt (k := k) (Nat.le_of_lt (Nat.lt_of_le_of_lt (unhide HN3).ge (unhide HN3).blk.lt)) (unhide HB5) (unhide HO5))
    have hx2 : w.heap.size < w2.heap.size := (unhide HM1).blk0.lt
    have HK8 := hide ((unhide HM5).blk1.far (p := ⟨p, a * 21 + b, none⟩) (Nat.ne_of_gt hpl) (.slice A3 ((s.ways (a * 21 + b)).ps.eraseIdx k).length c3))
    have HK10 := hide ((unhide HM5).blk0.far (p := ⟨p, a * 21 + b, none⟩) (Nat.ne_of_gt (Nat.lt_trans hpl hx2)) (.slice A3 ((s.ways (a * 21 + b)).ps.eraseIdx k).length c3))
    clear fc3 fz5 fc5
    go_wp2_with (first
      | (refine wpList_load_blk rfl 36 (.tmp 10) rfl (w2.heap.size) rfl 36 _ _ (unhide HK10) Try.underlying36 rfl (by kernel_rfl) ?_)
      | (refine wpList_store_blk rfl 36 (.tmp 8) (.tmp 39) rfl w.heap.size _ (by rfl) (by rfl) 36 _ (unhide HK8) (by kernel_rfl) (by rfl) (by simp [Value.oneCell']) ?_; intro w7 hbS hgS; have HB7 := hide hbS; have HG7 := hide hgS; clear hbS hgS))
    obtain ⟨d1, d2, d3⟩ := unhide HD
    have hlt3 := (unhide HM3).blk1.lt
    have o7 : Only (fun g => g = w.heap.size) _ w7 := Only.of_grown (S := fun g => g = w.heap.size) (unhide HG7) (fun _ e => (Option.some.inj e).symm)
    have hst : NStep w w7 B p s _ := NStep.beside ((NStep.of_new (unhide HN) (unhide HM3).below).trans ⟨d1, d2, d3⟩) o7 (Nat.le_refl _) (fun hf => by
      rcases d3 _ hf with h1 | h1
      · exact Nat.lt_irrefl _ ((unhide HN).foot h1).2
      · exact absurd hlt3 (Nat.not_lt.2 h1))
    have hv : ∀ g, (Value.slice A2 x.1.1.length c2).ownBlock = some g → w.heap.size < g := fun g hg => by
      have h1 := ((unhide HO3).lt g hg).1
      have h2 := unhide HS1
      omega
    refine ret_pk rfl w.heap.size _ rfl rfl (unhide HB7) rfl ⟨A2, c2, A3, c3, rfl, hst, ?_⟩
    have q1 := own_only (unhide HO3) (Only.of_new (S := fun _ => False) (unhide HB5)) (fun g hg h => h)
    have q2 := ownsRow_setCell_other q1 (a := ⟨p, a * 21 + b, none⟩) (fun e => by have := hv p e; omega) (.slice A3 ((s.ways (a * 21 + b)).ps.eraseIdx k).length c3)
    exact own_more (own_only q2 o7 (fun g hg e => by have := hv g hg; omega)) (fun g hg => Nat.le_of_lt (hv g hg))
end Go.Proofs.Ytbclfiollfagmaa
