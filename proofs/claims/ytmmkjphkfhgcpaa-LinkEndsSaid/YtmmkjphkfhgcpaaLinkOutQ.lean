/- link.Out of any end. -/
import Derived.Test.YtmmkjphkfhgcpaaLinkEnd
namespace Go.Proofs.Ytmmkjphkfhgcpaa
set_option linter.unusedVariables false
open Go.RowKit

/-- bodies that lie above B -/
def NewB (B : Nat) (q : Bodies) : Prop := ∀ x ∈ q, ∀ ad, x.2.1 = some ad → B ≤ ad.block
theorem own_stays {w w' : World} {base n : Nat} {v : Value} {xs : List Value} (h : w.ownsRow base 5 1 v n xs) (hs : Stays w w') : w'.ownsRow base 5 1 v n xs := by
  refine ⟨h.1, ?_⟩
  rcases h.2 with hn | ⟨g, cap, cur, rfl, hb, hg, r⟩
  · exact .inl hn
  · exact .inr ⟨g, cap, cur, rfl, hb, hs g _ hg (fun _ _ _ e => by injection e with _ e _; exact e.symm), r⟩
/-- each body is a row of its own, from B on -/
def OwnB (w : World) (B : Nat) (q : Bodies) : Prop := ∀ x ∈ q, w.ownsRow B 5 1 (.slice x.2.1 x.1.length x.2.2) x.1.length (x.1.map Bv)
theorem OwnB.stays {w w' : World} {B : Nat} {q : Bodies} (h : OwnB w B q) (hs : Stays w w') : OwnB w' B q := fun x hx => own_stays (h x hx) hs
/-- what Out answers -/
def OutsQ (w : World) (ep sent got : Int) (n : Nat) (r : Bodies) (e : Ending) (w' : World) : Prop :=
  ∃ (k : Nat) (Ao : Option Addr) (co : Nat) (q : Bodies), e = .returned (.slice Ao k co) ∧ k = min n 16 ∧ q.length = k ∧ q.map (·.1) = (r.map (·.1)).take k ∧
      w'.ownsRow w.heap.size 31 5 (.slice Ao k co) k (outCells ep sent got 0 q) ∧ Lie w' q ∧ Below w.heap.size w w' ∧ Stays w w' ∧ NewB w.heap.size q ∧ OwnB w' w.heap.size q

set_option maxHeartbeats 2000000 in
set_option maxRecDepth 20000 in
theorem out_walk (p : Nat) (ep sent got : Int) (Aw : Option Addr) (n cw m : Nat) (r : Bodies) (w : World)
    (hp : Blk w p 64 (endCells ep (.slice Aw n cw) sent got m)) (hown : Qu w 22 (.slice Aw n cw) n (rowOf r)) (hl : Lie w r) (hn : n ≤ 4096) (h0 : 0 ≤ sent) (h1 : sent ≤ 1099511627776) :
    Calls Try.prog 12 #[.pointer (some ⟨p, 0, none⟩)] w (OutsQ w ep sent got n r) := by
  obtain ⟨i0, hi, hz0, hz1, hz2⟩ := info_parts frinfo
  have hrl : r.length = n := by have := hown.len; simpa [rowOf] using this
  have fc := endAt hp
  have hplt := hp.lt
  have HP := hide hp
  have HO := hide hown
  have HL := hide hl
  clear hp hown hl
  go_enter Try.func12, Try.ntmps12
  go_wp2_with fail
  go_loopw [3, 13] (fun o i wr => ∃ (k : Nat) (Ao : Option Addr) (co : Nat) (q : Bodies), k ≤ n ∧ k ≤ 16 ∧ i = .int .i64 k ∧ o = .slice Ao k co ∧ q.length = k ∧ q.map (·.1) = (r.map (·.1)).take k ∧
      wr.ownsRow w.heap.size 31 5 (.slice Ao k co) k (outCells ep sent got 0 q) ∧ Lie wr q ∧ Below w.heap.size w wr ∧ Stays w wr ∧ NewB w.heap.size q ∧ OwnB wr w.heap.size q) (fun _ i _ => n - (intOf i).toNat)
  case atStart => exact ⟨0, none, 0, [], by omega, by omega, rfl, rfl, rfl, rfl, own_nil _ _ _ _, fun x hx => absurd hx (by simp), Below.refl _ _, Stays.refl _, fun x hx => absurd hx (by simp), fun x hx => absurd hx (by simp)⟩
  case round =>
    obtain ⟨k, Ao, co, q, hk, hk16, rfl, rfl, hql, hqm, hrow, hlq, hbel, hst, hnb, hob⟩ := hrel
    have HRow := hide hrow
    have HLq := hide hlq
    have HB := hide hbel
    have HS := hide hst
    have HQM := hide hqm
    have HNB := hide hnb
    have HOB := hide hob
    clear hrow hlq hbel hst hqm hnb hob
    by_cases hlt : k < n
    · have hcell : ∃ x : List UInt8 × Option Addr × Nat, r[k]? = some x := ⟨r[k], List.getElem?_eq_getElem (by omega)⟩
      obtain ⟨x, hx⟩ := hcell
      obtain ⟨ad, hA, hadl, hc⟩ := (unhide HO).rd (by simp [rowOf]; omega)
      subst hA
      have hck := hc k (.slice x.2.1 x.1.length x.2.2) (by rw [rowOf, List.getElem?_map, hx]; rfl)
      have c5 : wr.cell? (ad.add k) = some (.slice x.2.1 x.1.length x.2.2) := ((unhide HB).cell (p := ad.add k) (by rw [block_of_add]; exact hadl)).trans hck
      have HPr := hide ((unhide HP).below (unhide HB) hplt)
      have fcr := endAt (unhide HPr)
      have hxm : x ∈ r := List.mem_of_getElem? hx
      have HX := hide (unhide HL x hxm)
      have hxl : x.1.length ≤ 1048576 := (unhide HX).2.2
      have HXM : Hid ((r.map (·.1)).take (k + 1) = (r.map (·.1)).take k ++ [x.1]) := hide (by rw [List.take_add_one, List.getElem?_map, hx]; rfl)
      clear hc hck hx hxm hadl
      by_cases h16 : k = 16
      · have f16 : ((k : Int) == 16) = true := by rw [h16]; rfl
        have h16' := hide h16
        clear h16
        go_wp2_with fail
        go_ret
        exact ⟨k, Ao, co, q, rfl, by have := unhide h16'; omega, hql, unhide HQM, unhide HRow, unhide HLq, unhide HB, unhide HS, unhide HNB, unhide HOB⟩
      · have HC := hide (copied_any x.1 x.2.1 x.2.2 wr.heap.size wr.drew (RdB.keep (((unhide HX).1.stays (unhide HS)).rd) (fun _ _ => rfl)) (Nat.le_refl _) (by omega))
        have f16 : ((k : Int) == 16) = false := beq_eq_false_iff_ne.2 (by omega)
        have g1 := fun (wx : World) (h : Blk wx p 64 (endCells ep (.slice (some ad) n cw) sent got m)) => endAt h
        have hw1 : IntKind.i64.wrap (sent + 1) = sent + 1 := by rw [IntKind.wrap_i64]; omega
        have hw2 : IntKind.i64.wrap (sent + 1 + (k : Int)) = sent + 1 + (k : Int) := by rw [IntKind.wrap_i64]; omega
        go_wp2_with fail
        go_region_held3 (fun wx => Blk wx p 64 (endCells ep (.slice (some ad) n cw) sent got m)) (first | with_reducible exact (unhide HPr).drew | with_reducible exact unhide HP2 | with_reducible exact (unhide HP2).alloc _ | with_reducible exact unhide HP3 | fail)
          (first
            | (go_at_call 27; refine (unhide HC).mono ?_; rintro _ w2 ⟨A2, c2, rfl, hown2, hbel2, hcc2⟩
               have HP2 := hide ((unhide HPr).drew.below hbel2 (unhide HPr).lt)
               have HR2 := hide ((own_below (unhide HRow).drew hbel2 (fun k hk => ((unhide HRow).lt k hk).2)).alloc (.cells #[.int .i64 0, .int .i64 ep, .int .i64 (sent + 1 + (k : Int)), .int .i64 got, .slice A2 x.1.length c2] 31))
               have HT2 := hide (RdT.of_own hown2); have HW2 := hide (own_more (base' := w.heap.size) hown2 (fun k hk => Nat.le_trans (unhide HB).size (hown2.lt k hk).1)); have HA2 := hide (fun ad (e : A2 = some ad) => (hown2.lt ad.block (by rw [e]; rfl)).1); have HS2 := hide (Stays.of_below hbel2 (Nat.le_refl _)); have HB2 := hide hbel2; have hcc2' := hide hcc2; clear hown2 hbel2 hcc2)
            | (refine step_append_any _ rfl (.tmp 20) (.tmp 39) _ rfl w.heap.size 31 i0 _ 5 56 Try.underlying27 hi hz0 hz1 hz2 rfl (by omega) _ k _ (by rfl) (unhide HR2) _ _ 1 1 _ (by rfl) (RdV.of_own (base := 0) (size := 5) (World.ownsRow_lit w2 #[.int .i64 0, .int .i64 ep, .int .i64 (sent + 1 + (k : Int)), .int .i64 got, .slice A2 x.1.length c2] 1 (Nat.zero_le _) (by simp [maxLen]) rfl)) rfl
                 (by intro u hu; simp at hu; rcases hu with rfl | rfl | rfl | rfl | rfl <;> rfl) (by simp only [maxLen]; omega) (by omega) (by have h1 := (unhide HB2).size; have h2 := (unhide HB).size; simp at h1 ⊢; omega) ?_
               intro A3 c3 w3 hown3 hg3 hat3 hbel3 hcc3
               have HO3 := hide hown3; have HS3 := hide (Stays.grown (unhide HR2) (by decide) hg3); have HB3 := hide hbel3
               have HP3 := hide (((unhide HP2).alloc (.cells #[.int .i64 0, .int .i64 ep, .int .i64 (sent + 1 + (k : Int)), .int .i64 got, .slice A2 x.1.length c2] 31)).below hbel3 hplt); clear hown3 hg3 hat3 hbel3))
        all_goals go_wp2_with fail
        all_goals
          refine ⟨⟨k + 1, A3, c3, q ++ [(x.1, A2, c2)], by omega, by omega, by go_num, rfl, by simp [hql], by rw [List.map_append, unhide HQM, unhide HXM]; rfl, ?_, ?_, ?_, ?_, ?_, ?_⟩, by simp [intOf]; omega⟩
          · rw [outCells_snoc, hql, Nat.zero_add]
            exact unhide HO3
          · intro y hy
            have hs := ((Stays.drew wr).trans (unhide HS2)).trans ((Stays.alloc w2 _).trans (unhide HS3))
            rcases List.mem_append.1 hy with hy | hy
            · exact ((unhide HLq).stays hs) y hy
            · obtain rfl := List.mem_singleton.1 hy
              exact ⟨(unhide HT2).stays ((Stays.alloc w2 _).trans (unhide HS3)), unhide hcc2', hxl⟩
          · have hb2 : Below w.heap.size w w2 := (unhide HB).drew.trans ((unhide HB2).mono (unhide HB).size)
            exact (hb2.alloc hb2.size _).trans (unhide HB3)
          · exact (((unhide HS).trans (Stays.drew wr)).trans (unhide HS2)).trans ((Stays.alloc w2 _).trans (unhide HS3))
          · intro y hy ad e
            rcases List.mem_append.1 hy with hy | hy
            · exact unhide HNB y hy ad e
            · obtain rfl := List.mem_singleton.1 hy
              exact Nat.le_trans (unhide HB).size (unhide HA2 ad e)
          · intro y hy
            have hs := ((Stays.drew wr).trans (unhide HS2)).trans ((Stays.alloc w2 _).trans (unhide HS3))
            rcases List.mem_append.1 hy with hy | hy
            · exact ((unhide HOB).stays hs) y hy
            · obtain rfl := List.mem_singleton.1 hy
              exact own_stays (unhide HW2) ((Stays.alloc w2 _).trans (unhide HS3))
    · obtain rfl : k = n := by omega
      go_wp2_with fail
      go_ret
      exact ⟨k, Ao, co, q, rfl, by omega, hql, unhide HQM, unhide HRow, unhide HLq, unhide HB, unhide HS, unhide HNB, unhide HOB⟩
end Go.Proofs.Ytmmkjphkfhgcpaa
