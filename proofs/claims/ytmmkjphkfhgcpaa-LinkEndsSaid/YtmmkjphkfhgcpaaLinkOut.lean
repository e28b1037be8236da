/- link.Out. -/
import Derived.Test.YtmmkjphkfhgcpaaLinkSend
namespace Go.Proofs.Ytmmkjphkfhgcpaa
set_option linter.unusedVariables false
open Go.RowKit

theorem frinfo : (Try.prog.info? 31).map (fun i => (i.zero, i.size, i.bytes)) = some (some (.agg #[.int .i64 0, .int .i64 0, .int .i64 0, .int .i64 0, .slice none 0 0]), 5, 56) := by kernel_rfl
/-- bodies and where they lie -/
abbrev Bodies := List (List UInt8 × Option Addr × Nat)
def rowOf (r : Bodies) : List Value := r.map fun x => .slice x.2.1 x.1.length x.2.2
def Lie (w : World) (r : Bodies) : Prop := ∀ x ∈ r, RdT w x.2.1 x.1 ∧ x.1.length ≤ x.2.2 ∧ x.1.length ≤ 1048576
theorem Lie.stays {w w' : World} {r : Bodies} (h : Lie w r) (hs : Stays w w') : Lie w' r := fun x hx => ⟨(h x hx).1.stays hs, (h x hx).2⟩
/-- the cells of the frames that are out -/
def outCells (ep sent got : Int) : Nat → Bodies → List Value
  | _, [] => []
  | i, x :: r => .int .i64 0 :: .int .i64 ep :: .int .i64 (sent + 1 + i) :: .int .i64 got :: .slice x.2.1 x.1.length x.2.2 :: outCells ep sent got (i + 1) r
theorem outCells_snoc (ep sent got : Int) (x : List UInt8 × Option Addr × Nat) : ∀ (r : Bodies) (i : Nat), outCells ep sent got i (r ++ [x]) = outCells ep sent got i r ++ [.int .i64 0, .int .i64 ep, .int .i64 (sent + 1 + (i + r.length : Nat)), .int .i64 got, .slice x.2.1 x.1.length x.2.2]
  | [], i => by simp [outCells]
  | y :: r, i => by
    rw [List.cons_append, outCells, outCells_snoc ep sent got x r (i + 1), outCells, List.length_cons, show i + 1 + r.length = i + (r.length + 1) by omega]
    rfl
theorem outCells_len (ep sent got : Int) : ∀ (r : Bodies) (i : Nat), (outCells ep sent got i r).length = r.length * 5
  | [], _ => rfl
  | x :: r, i => by
    rw [outCells]
    simp only [List.length_cons, outCells_len ep sent got r (i + 1)]
    omega

/-- what Out answers -/
def Outs (w : World) (ep sent got : Int) (n : Nat) (r : Bodies) (e : Ending) (w' : World) : Prop :=
  ∃ (k : Nat) (Ao : Option Addr) (co : Nat) (q : Bodies), e = .returned (.slice Ao k co) ∧ k = min n 16 ∧ q.length = k ∧ q.map (·.1) = (r.map (·.1)).take k ∧
      w'.ownsRow w.heap.size 31 5 (.slice Ao k co) k (outCells ep sent got 0 q) ∧ Lie w' q ∧ Below w.heap.size w w' ∧ Stays w w'

set_option maxHeartbeats 2000000 in
set_option maxRecDepth 20000 in
theorem out_any (p : Nat) (ep sent got : Int) (Aw : Option Addr) (n cw m : Nat) (r : Bodies) (w : World)
    (hp : Blk w p 64 (endCells ep (.slice Aw n cw) sent got m)) (hown : w.ownsRow (p + 1) 22 1 (.slice Aw n cw) n (rowOf r)) (hl : Lie w r) (hn : n ≤ 4096) (h0 : 0 ≤ sent) (h1 : sent ≤ 1099511627776) :
    Calls Try.prog 12 #[.pointer (some ⟨p, 0, none⟩)] w (Outs w ep sent got n r) := by
  obtain ⟨i0, hi, hz0, hz1, hz2⟩ := info_parts frinfo
  have hrl : r.length = n := by have := own_len hown; simpa [rowOf] using this
  have fc := endAt hp
  have hplt := hp.lt
  have HP := hide hp
  have HO := hide hown
  have HL := hide hl
  clear hp hown hl
  go_enter Try.func12, Try.ntmps12
  go_wp2_with fail
  go_loopw [3, 13] (fun o i wr => ∃ (k : Nat) (Ao : Option Addr) (co : Nat) (q : Bodies), k ≤ n ∧ k ≤ 16 ∧ i = .int .i64 k ∧ o = .slice Ao k co ∧ q.length = k ∧ q.map (·.1) = (r.map (·.1)).take k ∧
      wr.ownsRow w.heap.size 31 5 (.slice Ao k co) k (outCells ep sent got 0 q) ∧ Lie wr q ∧ Below w.heap.size w wr ∧ Stays w wr) (fun _ i _ => n - (intOf i).toNat)
  case atStart => exact ⟨0, none, 0, [], by omega, by omega, rfl, rfl, rfl, rfl, own_nil _ _ _ _, fun x hx => absurd hx (by simp), Below.refl _ _, Stays.refl _⟩
  case round =>
    obtain ⟨k, Ao, co, q, hk, hk16, rfl, rfl, hql, hqm, hrow, hlq, hbel, hst⟩ := hrel
    have HRow := hide hrow
    have HLq := hide hlq
    have HB := hide hbel
    have HS := hide hst
    have HQM := hide hqm
    clear hrow hlq hbel hst hqm
    by_cases hlt : k < n
    · have hcell : ∃ x : List UInt8 × Option Addr × Nat, r[k]? = some x := ⟨r[k], List.getElem?_eq_getElem (by omega)⟩
      obtain ⟨x, hx⟩ := hcell
      obtain ⟨ad, hA, hadl, hc⟩ := RdV.of_own (unhide HO) (by simp [rowOf]; omega)
      subst hA
      have hck := hc k (.slice x.2.1 x.1.length x.2.2) (by rw [rowOf, List.getElem?_map, hx]; rfl)
      have c5 : wr.cell? (ad.add k) = some (.slice x.2.1 x.1.length x.2.2) := ((unhide HB).cell (p := ad.add k) (by rw [block_of_add]; exact hadl)).trans hck
      have HPr := hide ((unhide HP).below (unhide HB) hplt)
      have fcr := endAt (unhide HPr)
      have hxm : x ∈ r := List.mem_of_getElem? hx
      have HX := hide (unhide HL x hxm)
      have hxl : x.1.length ≤ 1048576 := (unhide HX).2.2
      have HXM : Hid ((r.map (·.1)).take (k + 1) = (r.map (·.1)).take k ++ [x.1]) := hide (by rw [List.take_add_one, List.getElem?_map, hx]; rfl)
      clear hc hck hx hxm hadl
      by_cases h16 : k = 16
      · have f16 : ((k : Int) == 16) = true := by rw [h16]; rfl
        have h16' := hide h16
        clear h16
        go_wp2_with fail
        go_ret
        exact ⟨k, Ao, co, q, rfl, by have := unhide h16'; omega, hql, unhide HQM, unhide HRow, unhide HLq, unhide HB, unhide HS⟩
      · have HC := hide (copied_any x.1 x.2.1 x.2.2 wr.heap.size wr.drew (RdB.keep (((unhide HX).1.stays (unhide HS)).rd) (fun _ _ => rfl)) (Nat.le_refl _) (by omega))
        have f16 : ((k : Int) == 16) = false := beq_eq_false_iff_ne.2 (by omega)
        have g1 := fun (wx : World) (h : Blk wx p 64 (endCells ep (.slice (some ad) n cw) sent got m)) => endAt h
        have hw1 : IntKind.i64.wrap (sent + 1) = sent + 1 := by rw [IntKind.wrap_i64]; omega
        have hw2 : IntKind.i64.wrap (sent + 1 + (k : Int)) = sent + 1 + (k : Int) := by rw [IntKind.wrap_i64]; omega
        go_wp2_with fail
        go_region_held3 (fun wx => Blk wx p 64 (endCells ep (.slice (some ad) n cw) sent got m)) (first | with_reducible exact (unhide HPr).drew | with_reducible exact unhide HP2 | with_reducible exact (unhide HP2).alloc _ | with_reducible exact unhide HP3 | fail)
          (first
            | (go_at_call 27; refine (unhide HC).mono ?_; rintro _ w2 ⟨A2, c2, rfl, hown2, hbel2, hcc2⟩
               have HP2 := hide ((unhide HPr).drew.below hbel2 (unhide HPr).lt)
               have HR2 := hide ((own_below (unhide HRow).drew hbel2 (fun k hk => ((unhide HRow).lt k hk).2)).alloc (.cells #[.int .i64 0, .int .i64 ep, .int .i64 (sent + 1 + (k : Int)), .int .i64 got, .slice A2 x.1.length c2] 31))
               have HT2 := hide (RdT.of_own hown2); have HS2 := hide (Stays.of_below hbel2 (Nat.le_refl _)); have HB2 := hide hbel2; have hcc2' := hide hcc2; clear hown2 hbel2 hcc2)
            | (refine step_append_any _ rfl (.tmp 20) (.tmp 39) _ rfl w.heap.size 31 i0 _ 5 56 Try.underlying27 hi hz0 hz1 hz2 rfl (by omega) _ k _ (by rfl) (unhide HR2) _ _ 1 1 _ (by rfl) (RdV.of_own (base := 0) (size := 5) (World.ownsRow_lit w2 #[.int .i64 0, .int .i64 ep, .int .i64 (sent + 1 + (k : Int)), .int .i64 got, .slice A2 x.1.length c2] 1 (Nat.zero_le _) (by simp [maxLen]) rfl)) rfl
                 (by intro u hu; simp at hu; rcases hu with rfl | rfl | rfl | rfl | rfl <;> rfl) (by simp only [maxLen]; omega) (by omega) (by have h1 := (unhide HB2).size; have h2 := (unhide HB).size; simp at h1 ⊢; omega) ?_
               intro A3 c3 w3 hown3 hg3 hat3 hbel3 hcc3
               have HO3 := hide hown3; have HS3 := hide (Stays.grown (unhide HR2) (by decide) hg3); have HB3 := hide hbel3
               have HP3 := hide (((unhide HP2).alloc (.cells #[.int .i64 0, .int .i64 ep, .int .i64 (sent + 1 + (k : Int)), .int .i64 got, .slice A2 x.1.length c2] 31)).below hbel3 hplt); clear hown3 hg3 hat3 hbel3))
        all_goals go_wp2_with fail
        all_goals
          refine ⟨⟨k + 1, A3, c3, q ++ [(x.1, A2, c2)], by omega, by omega, by go_num, rfl, by simp [hql], by rw [List.map_append, unhide HQM, unhide HXM]; rfl, ?_, ?_, ?_, ?_⟩, by simp [intOf]; omega⟩
          · rw [outCells_snoc, hql, Nat.zero_add]
            exact unhide HO3
          · intro y hy
            have hs := ((Stays.drew wr).trans (unhide HS2)).trans ((Stays.alloc w2 _).trans (unhide HS3))
            rcases List.mem_append.1 hy with hy | hy
            · exact ((unhide HLq).stays hs) y hy
            · obtain rfl := List.mem_singleton.1 hy
              exact ⟨(unhide HT2).stays ((Stays.alloc w2 _).trans (unhide HS3)), unhide hcc2', hxl⟩
          · have hb2 : Below w.heap.size w w2 := (unhide HB).drew.trans ((unhide HB2).mono (unhide HB).size)
            exact (hb2.alloc hb2.size _).trans (unhide HB3)
          · exact (((unhide HS).trans (Stays.drew wr)).trans (unhide HS2)).trans ((Stays.alloc w2 _).trans (unhide HS3))
    · obtain rfl : k = n := by omega
      go_wp2_with fail
      go_ret
      exact ⟨k, Ao, co, q, rfl, by omega, hql, unhide HQM, unhide HRow, unhide HLq, unhide HB, unhide HS⟩
end Go.Proofs.Ytmmkjphkfhgcpaa
