/- The wake of the link's statements; LinkNone. -/
import Derived.Test.YtmmkjphkfhgcpaaLinkOut
import Derived.Lib.SlBytesConst
namespace Go.Proofs.Ytmmkjphkfhgcpaa
set_option linter.unusedVariables false
open Go.RowKit

theorem new_c (ep : Int) (w : World) : Calls Try.prog 10 #[.int .i64 ep] w fun e w' => e = .returned (.pointer (some ⟨w.heap.size + 1, 0, none⟩)) ∧ Blk w' (w.heap.size + 1) 64 (endCells ep (.slice none 0 0) 0 0 w.heap.size) ∧ w'.heap[w.heap.size]? = some (.map #[] 0) ∧ Below w.heap.size w w' ∧ Stays w w' :=
  Calls.mono (new_any ep w) (by
    rintro e w' ⟨rfl, rfl⟩
    have h := Blk.new (w.alloc (.map #[] 0)) 64 (endCells ep (.slice none 0 0) 0 0 w.heap.size)
    have e1 : (w.alloc (.map #[] 0)).heap.size = w.heap.size + 1 := by simp
    rw [e1] at h
    refine ⟨rfl, h, ?_, ((Below.refl _ w).alloc (Nat.le_refl _) _).alloc (by simp) _, (Stays.alloc w _).trans (Stays.alloc _ _)⟩
    exact (((Below.refl (w.heap.size + 1) (w.alloc (.map #[] 0))).alloc (by rw [e1]; exact Nat.le_refl _) (.cells (endCells ep (.slice none 0 0) 0 0 w.heap.size) 64)).block w.heap.size (Nat.lt_succ_self _)).trans (heap_alloc_new w _))
set_option maxHeartbeats 2000000 in
set_option maxRecDepth 20000 in
theorem awake_any (w : World) : Calls Try.prog 15 #[] w fun e w' => e = .returned (.bool true) ∧ Below w.heap.size w w' := by
  have HN := hide (new_c 3 w)
  have hcv := fun (u : World) => Go.Lib.run_convert_bytes_const (P := Try.prog) u 22 5 #[Value.int .u8 97] 1 1 Try.underlying22 Try.underlying5
  go_enter Try.func15, Try.ntmps15
  go_wp2_with (first
    | (go_at_call 10; refine (unhide HN).mono ?_; rintro _ w1 ⟨rfl, hb1, hm1, hbel1, _⟩
       have HP1 := hide (hb1.alloc (.cells #[Value.int .u8 97] 5 (1, 2))); have HB1 := hide (hbel1.alloc hbel1.size (.cells #[Value.int .u8 97] 5 (1, 2))); clear hb1 hm1 hbel1)
    | (go_at_call 11; refine (send_ok (w.heap.size + 1) 3 0 0 none 0 0 w.heap.size [] [97] (some ⟨w1.heap.size, 0, none⟩) 1 (w1.heap.size + 1) (w1.alloc (.cells #[Value.int .u8 97] 5 (1, 2))) (unhide HP1) (own_nil _ _ _ _) (by omega) (by simp) (RdV.b (RdV.one w1 (.int .u8 97) _ (1, 2))) (by simp)).mono ?_; rintro _ w2 ⟨rfl, A1, c1, Aw, cw, hp2, hown2, hrd2, hcc2, hcap2, hbel2, hst2⟩
       have HP2 := hide hp2; have HO2 := hide hown2; have HT2 := hide hrd2; have HB2 := hide ((unhide HB1).trans (hbel2.mono (Nat.le_succ _))); clear hp2 hown2 hrd2 hbel2 hst2)
    | (go_at_call 12; refine (out_any (w.heap.size + 1) 3 0 0 Aw 1 cw w.heap.size [([97], A1, c1)] w2 (unhide HP2) (unhide HO2) (fun x hx => by obtain rfl := List.mem_singleton.1 hx; exact ⟨unhide HT2, hcc2, by simp⟩) (by omega) (by omega) (by omega)).mono ?_
       rintro _ w3 ⟨k, Ao, co, q, rfl, hk, hql, hqm, hrow, hlq, hbel3, hst3⟩
       obtain rfl : k = 1 := by omega
       obtain ⟨⟨l, B, d⟩, rfl⟩ : ∃ x, q = [x] := List.length_eq_one_iff.1 hql
       obtain rfl : l = [97] := by simpa using hqm
       obtain ⟨g, cap, hv, hbg, hlt⟩ := hrow.form (by omega)
       obtain rfl : Ao = some ⟨g, 0, none⟩ := by injection hv
       have e1 : w3.cell? ⟨g, 1, none⟩ = some (.int .i64 3) := hrow.cellAt 1 (by omega)
       have e2 : w3.cell? ⟨g, 2, none⟩ = some (.int .i64 1) := hrow.cellAt 2 (by omega)
       have e4 : w3.cell? ⟨g, 4, none⟩ = some (.slice B 1 d) := hrow.cellAt 4 (by omega)
       have es : (convert 22 9 (.slice B 1 d)).run Try.prog w3 = .ok (.string ⟨#[97]⟩) w3 := run_str (P := Try.prog) d (hlq ([97], B, d) (by simp)).1.rd Try.underlying22 Try.underlying5 Try.underlying9
       have HB3 := hide ((unhide HB2).trans (hbel3.mono (unhide HB2).size)); clear hrow hlq hbel3 hst3 hk hql hqm hv))

  go_ret
  exact ⟨rfl, unhide HB3⟩
end Go.Proofs.Ytmmkjphkfhgcpaa
