/- A row of packets without one. -/
import Derived.Test.YtbclfiollfagmaaNetSend
namespace Go.Proofs.Ytbclfiollfagmaa
set_option linter.unusedVariables false
open Go.RowKit

theorem RdV.take_ {w : World} {B : Nat} {A : Option Addr} {xs : List Value} (h : RdV w B A xs) (n : Nat) : RdV w B A (xs.take n) := fun hp => by
  have : (xs.take n).length ≤ xs.length := by simp; omega
  obtain ⟨ad, e, hl, hc⟩ := h (by omega)
  exact ⟨ad, e, hl, fun j u hj => hc j u (by rw [List.getElem?_take] at hj; split at hj <;> simp_all)⟩
theorem RdV.drop_ {w : World} {B : Nat} {ad : Addr} {xs : List Value} (h : RdV w B (some ad) xs) (n : Nat) : RdV w B (some (ad.add n)) (xs.drop n) := fun hp => by
  rw [List.length_drop] at hp
  obtain ⟨a, e, hl, hc⟩ := h (by omega)
  injection e with e
  subst e
  exact ⟨_, rfl, by rw [block_of_add]; exact hl, fun j u hj => by rw [add_of_add]; exact hc _ u (by rw [← hj, List.getElem?_drop])⟩
theorem pkCells_one (r : List Pk) : ∀ u ∈ pkCells r, u.oneCell' = true := by
  intro u hu
  unfold pkCells at hu
  obtain ⟨x, _, hx⟩ := List.mem_flatMap.1 hu
  simp only [List.mem_cons, List.not_mem_nil, or_false] at hx
  rcases hx with rfl | rfl <;> rfl
theorem pkCells_take (r : List Pk) (n : Nat) : (pkCells r).take (n * 2) = pkCells (r.take n) := by
  rcases Nat.lt_or_ge n r.length with h | h
  · have e : pkCells r = pkCells (r.take n) ++ pkCells (r.drop n) := by rw [← pkCells_app, List.take_append_drop]
    rw [e, List.take_left' (by rw [pkCells_len, List.length_take]; omega)]
  · rw [List.take_of_length_le h, List.take_of_length_le (by rw [pkCells_len]; omega)]
theorem pkCells_drop (r : List Pk) (n : Nat) : (pkCells r).drop (n * 2) = pkCells (r.drop n) := by
  rcases Nat.lt_or_ge n r.length with h | h
  · have e : pkCells r = pkCells (r.take n) ++ pkCells (r.drop n) := by rw [← pkCells_app, List.take_append_drop]
    rw [e, List.drop_left' (by rw [pkCells_len, List.length_take]; omega)]
  · rw [List.drop_eq_nil_of_le h, List.drop_eq_nil_of_le (by rw [pkCells_len]; omega)]
    rfl
def WithoutP (w : World) (q : List Pk) (e : Ending) (w' : World) : Prop := ∃ A2 c2, e = .returned (.slice A2 q.length c2) ∧ w'.ownsRow w.heap.size 36 2 (.slice A2 q.length c2) q.length (pkCells q) ∧ Below w.heap.size w w'
set_option maxHeartbeats 4000000 in
set_option maxRecDepth 20000 in
theorem without_any (ps : List Pk) (g c i B : Nat) (w : World) (hr : RdV w B (some ⟨g, 0, none⟩) (pkCells ps)) (hB : B ≤ w.heap.size) (hi : i < ps.length) (hn : ps.length ≤ 48) (hc : ps.length ≤ c) (hcm : c ≤ 9223372036854775807) :
    Calls Try.prog 29 #[.slice (some ⟨g, 0, none⟩) ps.length c, .int .i64 (i : Int)] w (WithoutP w (ps.eraseIdx i)) := by
  obtain ⟨j0, hj, hy0, hy1, hy2⟩ := info_parts pkinfo
  have hr0 := hr
  have hmk : ∀ u : World, (Instr.makeSlice 59 (.int .i64 0) (.int .i64 ((ps.length : Int) - 1))).run Try.prog u = .ok (.slice (some ⟨u.heap.size, 0, none⟩) 0 (ps.length - 1)) (u.alloc (.cells (madeCells #[.slice none 0 0, .bool false] ((ps.length - 1) * 2)) 36)) := fun u => by
    have e : (ps.length : Int) - 1 = ((ps.length - 1 : Nat) : Int) := by omega
    rw [e]
    have h := run_make (P := Try.prog) u 59 36 j0 _ Try.underlying59 hj hy0 .i64 .i64 0 ((ps.length - 1 : Nat) : Int) (Int.le_refl _) (by omega) (by rw [hy2]; omega) (by omega)
    rw [hy1] at h
    simp at h
    exact h
  have hown0 : (w.alloc (.cells (madeCells #[.slice none 0 0, .bool false] ((ps.length - 1) * 2)) 36)).ownsRow w.heap.size 36 2 (.slice (some ⟨w.heap.size, 0, none⟩) 0 (ps.length - 1)) 0 [] := by
    obtain ⟨w', h1, h2, _⟩ := run_make_own (P := Try.prog) w w.heap.size 59 36 j0 _ 2 Try.underlying59 hj hy0 hy1 .i64 .i64 (ps.length - 1) (by rw [hy2]; omega) (by simp only [maxLen]; omega) (Nat.le_refl _)
    have e : (ps.length : Int) - 1 = ((ps.length - 1 : Nat) : Int) := by omega
    have h3 := hmk w
    rw [e, h1] at h3
    injection h3 with _ h3
    exact h3 ▸ h2
  have hrd := hr.below (((Below.refl B w).alloc hB (.cells (madeCells #[.slice none 0 0, .bool false] ((ps.length - 1) * 2)) 36)))
  obtain ⟨w1, hw1⟩ : ∃ u, w.alloc (.cells (madeCells #[.slice none 0 0, .bool false] ((ps.length - 1) * 2)) 36) = u := ⟨_, rfl⟩
  have hB1 : Below w.heap.size w w1 := hw1 ▸ (Below.refl _ _).alloc (Nat.le_refl _) _
  rw [hw1] at hown0 hrd
  have HO0 := hide hown0; have HB1 := hide hB1
  have hs1 := hB1.size
  have HRA : Hid (∀ n, RdV (w1.drewN n) B (some ⟨g, 0, none⟩) (pkCells (ps.take i))) := hide (fun n => by
    have h := hrd.take_ (i * 2)
    rw [pkCells_take] at h
    exact h)
  have htl : (ps.take i).length = i := by rw [List.length_take]; omega
  have htd : (ps.drop (i + 1)).length = ps.length - (i + 1) := List.length_drop
  have HTL := hide htl; have HTD := hide htd
  have HER : Hid (ps.eraseIdx i = ps.take i ++ ps.drop (i + 1)) := hide (List.eraseIdx_eq_take_drop_succ ..)
  have hc1 : (0 : Int) ≤ (i : Int) := by omega
  have hc2 : (i : Int) ≤ (c : Int) := by omega
  have hc3 : (i : Int) + 1 ≤ (ps.length : Int) := by omega
  have hc4 : (ps.length : Int) ≤ (c : Int) := by omega
  have hc5 : (0 : Int) ≤ (i : Int) + 1 := by omega
  have hw2 : IntKind.i64.wrap ((i : Int) + 1) = (i : Int) + 1 := by rw [IntKind.wrap_i64]; omega
  have hw3 : IntKind.i64.wrap ((ps.length : Int) - 1) = (ps.length : Int) - 1 := by rw [IntKind.wrap_i64]; omega
  clear hr htl htd hown0 hB1
  by_cases hcap : c = i + 1
  · subst hcap
    have hcz : (i : Int) ≤ (i : Int) + 1 := by omega
    have HRB : Hid (RdV w B (some ⟨g, 0, none⟩) (pkCells (ps.drop (i + 1)))) := hide (fun hp => by
      rw [pkCells_len, List.length_drop] at hp
      omega)
    clear hrd hr0
    go_enter Try.func29, Try.ntmps29
    go_upto_region 2 with fail
    go_region_law (first
      | (refine step_append_any _ rfl (.tmp 10) (.tmp 13) _ rfl w.heap.size 36 j0 _ 2 32 Try.underlying59 hj hy0 hy1 hy2 rfl (by omega) (.slice (some ⟨w.heap.size, 0, none⟩) 0 (ps.length - 1)) 0 _ (by first | (with_reducible rfl) | go_simp) (own_drewN (unhide HO0) _) _ (some ⟨g, 0, none⟩) i (i+1) _ (by first | (with_reducible rfl) | go_simp) (unhide HRA _) (by rw [pkCells_len, unhide HTL]) (pkCells_one _) (by simp only [maxLen]; omega) (by omega) (by simp; omega) ?_
         intro A4 c4 w4 hown4 hg4 hat4 hbel4 hcc4
         rw [Nat.zero_add, List.nil_append] at hown4; rw [Nat.zero_add] at hcc4 ⊢
         have hb4 := (unhide HB1).trans ⟨hbel4.os, hbel4.tape, hbel4.output, hbel4.size, hbel4.block⟩
         have HB4 := hide hb4; have HO4 := hide hown4; have HRB4 := hide ((unhide HRB).below (w' := w4) (hb4.mono hB)); clear hown4 hg4 hat4 hbel4 hb4)
      | (refine step_append_any _ rfl (.tmp 14) (.tmp 18) _ rfl w.heap.size 36 j0 _ 2 32 Try.underlying59 hj hy0 hy1 hy2 rfl (by omega) (.slice A4 i c4) i _ (by first | (with_reducible rfl) | go_simp) (unhide HO4) _ (some ⟨g, 0, none⟩) 0 0 _ (by first | (with_reducible rfl) | go_simp) (unhide HRB4) (by rw [pkCells_len, unhide HTD] <;> omega) (pkCells_one _) (by simp only [maxLen]; omega) (by omega) (by have := (unhide HB4).size; omega) ?_
         intro A5 c5 w5 hown5 hg5 hat5 hbel5 hcc5
         have HO5 := hide hown5; have HB5 := hide ((unhide HB4).trans hbel5); clear hown5 hg5 hat5 hbel5))
    all_goals go_wp2_with fail
    all_goals
      go_ret
      have hl : (ps.eraseIdx i).length = i + 0 := by rw [unhide HER, List.length_append, unhide HTL, unhide HTD] <;> omega
      refine ⟨A5, c5, by rw [hl]; rfl, ?_, unhide HB5⟩
      rw [hl, unhide HER, pkCells_app]
      exact unhide HO5
  · have HRB : Hid (RdV w B (some ⟨g, (i + 1) * 2, none⟩) (pkCells (ps.drop (i + 1)))) := hide (by
      have h := hr0.drop_ ((i + 1) * 2)
      rw [pkCells_drop, add_zero_off] at h
      exact h)
    clear hrd hr0
    go_enter Try.func29, Try.ntmps29
    go_upto_region 2 with fail
    go_region_law (first
      | (refine step_append_any _ rfl (.tmp 10) (.tmp 13) _ rfl w.heap.size 36 j0 _ 2 32 Try.underlying59 hj hy0 hy1 hy2 rfl (by omega) (.slice (some ⟨w.heap.size, 0, none⟩) 0 (ps.length - 1)) 0 _ (by first | (with_reducible rfl) | go_simp) (own_drewN (unhide HO0) _) _ (some ⟨g, 0, none⟩) i c _ (by first | (with_reducible rfl) | go_simp) (unhide HRA _) (by rw [pkCells_len, unhide HTL]) (pkCells_one _) (by simp only [maxLen]; omega) (by omega) (by simp; omega) ?_
         intro A4 c4 w4 hown4 hg4 hat4 hbel4 hcc4
         rw [Nat.zero_add, List.nil_append] at hown4; rw [Nat.zero_add] at hcc4 ⊢
         have hb4 := (unhide HB1).trans ⟨hbel4.os, hbel4.tape, hbel4.output, hbel4.size, hbel4.block⟩
         have HB4 := hide hb4; have HO4 := hide hown4; have HRB4 := hide ((unhide HRB).below (w' := w4) (hb4.mono hB)); clear hown4 hg4 hat4 hbel4 hb4)
      | (refine step_append_any _ rfl (.tmp 14) (.tmp 18) _ rfl w.heap.size 36 j0 _ 2 32 Try.underlying59 hj hy0 hy1 hy2 rfl (by omega) (.slice A4 i c4) i _ (by first | (with_reducible rfl) | go_simp) (unhide HO4) _ (some ⟨g, ((i+1)*2), none⟩) (ps.length-(i+1)) (c-(i+1)) _ (by first | (with_reducible rfl) | go_simp) (unhide HRB4) (by rw [pkCells_len, unhide HTD] <;> omega) (pkCells_one _) (by simp only [maxLen]; omega) (by omega) (by have := (unhide HB4).size; omega) ?_
         intro A5 c5 w5 hown5 hg5 hat5 hbel5 hcc5
         have HO5 := hide hown5; have HB5 := hide ((unhide HB4).trans hbel5); clear hown5 hg5 hat5 hbel5))
    all_goals go_wp2_with fail
    all_goals
      go_ret
      have hl : (ps.eraseIdx i).length = i + (ps.length-(i+1)) := by rw [unhide HER, List.length_append, unhide HTL, unhide HTD] <;> omega
      refine ⟨A5, c5, by rw [hl]; rfl, ?_, unhide HB5⟩
      rw [hl, unhide HER, pkCells_app]
      exact unhide HO5
end Go.Proofs.Ytbclfiollfagmaa
