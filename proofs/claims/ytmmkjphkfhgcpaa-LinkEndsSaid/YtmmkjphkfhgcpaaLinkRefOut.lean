/- The document's end: Out. -/
import Derived.Test.YtmmkjphkfhgcpaaLinkRefB
namespace Go.Proofs.Ytmmkjphkfhgcpaa
set_option linter.unusedVariables false
open Go.RowKit

set_option maxHeartbeats 4000000 in
set_option maxRecDepth 20000 in
theorem refOut_any (B p : Nat) (s : RS) (a : Nat) (w : World) (h : RefAt w B p s) (ha : s.ak = (a : Int)) (h2 : a ≤ 1000000) (h3 : s.S.length ≤ 1000000) (hal : a ≤ s.S.length) (hep : -9223372036854775808 ≤ s.ep) :
    Calls Try.prog 25 #[.pointer (some ⟨p, 0, none⟩)] w fun e w' => ∃ (k : Nat) (Ao : Option Addr) (co : Nat) (q : Bodies), e = .returned (.slice Ao k co) ∧ q.length = k ∧ q = (s.S.drop a).take 16 ∧
      w'.ownsRow w.heap.size 31 5 (.slice Ao k co) k (outCells s.ep a s.got 0 q) ∧ Below w.heap.size w w' := by
  obtain ⟨i0, hi, hz0, hz1, hz2⟩ := info_parts frinfo
  obtain ⟨Q, hQ⟩ : ∃ Q, (s.S.drop a).take 16 = Q := ⟨_, rfl⟩
  have hm : Q.length = min (s.S.length - a) 16 := by rw [← hQ, List.length_take, List.length_drop]; omega
  have hlast : lastOf s = (a : Int) + Q.length := by unfold lastOf; rw [ha, hm]; split <;> omega
  have fc := refAt h.blk
  rw [ha] at fc
  have HH := hide h
  have HL := hide (fun (u : World) (hu : RefAt u B p s) => last_any B p s u hu (by omega) (by omega) (by omega))
  rw [hlast] at HL
  have hw1 : IntKind.i64.wrap ((a : Int) + 1) = (a : Int) + 1 := by rw [IntKind.wrap_i64]; omega
  have HQ := hide hQ
  have HM := hide hm
  have hm16 : Q.length ≤ 16 := by omega
  clear h hQ hlast hm
  go_enter Try.func25, Try.ntmps25
  go_wp2_with fail
  go_loopw [3, 4] (fun o i wr => ∃ (j : Nat) (Ao : Option Addr) (co : Nat), j ≤ Q.length ∧ i = .int .i64 ((a : Int) + 1 + j) ∧ o = .slice Ao j co ∧ wr.ownsRow w.heap.size 31 5 (.slice Ao j co) j (outCells s.ep a s.got 0 (Q.take j)) ∧ Below w.heap.size w wr) (fun _ i _ => (a + 1 + Q.length) - (intOf i).toNat)
  case atStart => exact ⟨0, none, 0, by omega, by simp, rfl, own_nil _ _ _ _, Below.refl _ _⟩
  case round =>
    obtain ⟨j, Ao, co, hj, rfl, rfl, hrow, hb⟩ := hrel
    have HB := hide hb
    have HRow := hide hrow
    have HHr := hide ((unhide HH).new hb)
    clear hrow hb
    by_cases hlt : j < Q.length
    · obtain ⟨x, hx⟩ : ∃ x, Q[j]? = some x := ⟨Q[j], List.getElem?_eq_getElem hlt⟩
      have hxs : s.S[a + j]? = some x := by
        rw [← unhide HQ, List.getElem?_take_of_lt (by omega), List.getElem?_drop] at hx
        exact hx
      have hlS : a + j < s.S.length := (List.getElem?_eq_some_iff.1 hxs).1
      obtain ⟨g, cap, hv, _, _⟩ := (unhide HHr).sent.form (by omega)
      have hA : s.sA = some ⟨g, 0, none⟩ := by injection hv
      have hcs := (unhide HHr).sent
      rw [hA] at hcs
      have HCS : Hid (∀ n : Nat, (wr.drewN n).cell? ⟨g, a + j, none⟩ = some (.slice x.2.1 x.1.length x.2.2)) := hide (fun n => (hcs.cellAt (a + j) (by omega)).trans (rowOf_at hxs))
      have hfr := refAt (unhide HHr).blk
      rw [ha, hA] at hfr
      have HFR : Hid (∀ n : Nat, (wr.drewN n).cell? ⟨p, 0, none⟩ = some (.int .i64 s.ep) ∧ (wr.drewN n).cell? ⟨p, 1, none⟩ = some (.slice (some ⟨g, 0, none⟩) s.S.length s.sc) ∧ (wr.drewN n).cell? ⟨p, 4, none⟩ = some (.int .i64 s.got)) := hide (fun n => ⟨hfr.1, hfr.2.1, hfr.2.2.2.2⟩)
      have f1 : decide ((a : Int) + 1 + j ≤ (a : Int) + Q.length) = true := decide_eq_true (by omega)
      have hw2 : IntKind.i64.wrap ((a : Int) + 1 + j - 1) = ((a + j : Nat) : Int) := by rw [IntKind.wrap_i64]; omega
      have hw3 : IntKind.i64.wrap ((a : Int) + 1 + j + 1) = (a : Int) + 1 + ((j + 1 : Nat) : Int) := by rw [IntKind.wrap_i64]; omega
      have hq1 : (0 : Int) ≤ (a : Int) + (j : Int) := by omega
      have hq2 : (a : Int) + (j : Int) < (s.S.length : Int) := by omega
      have hq3 : ((a : Int) + (j : Int)).toNat = a + j := by omega
      have HXM : Hid (Q.take (j + 1) = Q.take j ++ [x]) := hide (by rw [List.take_add_one, hx]; rfl)
      have c1 := unhide HCS 0
      have fr := unhide HFR 0
      have c1 : wr.cell? ⟨g, a + j, none⟩ = some (.slice x.2.1 x.1.length x.2.2) := c1
      have fr : wr.cell? ⟨p, 0, none⟩ = some (.int .i64 s.ep) ∧ wr.cell? ⟨p, 1, none⟩ = some (.slice (some ⟨g, 0, none⟩) s.S.length s.sc) ∧ wr.cell? ⟨p, 4, none⟩ = some (.int .i64 s.got) := fr
      clear fc hfr hcs hv hx hxs hA
      go_upto_region 5 with (go_at_call 28; refine (unhide HL _ (unhide HHr)).mono ?_; rintro _ w2 ⟨rfl, n2, rfl⟩)
      have HRn : Hid (∀ n : Nat, ((wr.drewN n).alloc (.cells #[.int .i64 0, .int .i64 s.ep, .int .i64 ((a : Int) + 1 + j), .int .i64 s.got, .slice x.2.1 x.1.length x.2.2] 31)).ownsRow w.heap.size 31 5 (.slice Ao j co) j (outCells s.ep a s.got 0 (Q.take j))) := hide (fun n => (own_drewN (unhide HRow) n).alloc _)
      go_region_law (refine step_append_any _ rfl (.tmp 16) (.tmp 35) _ rfl w.heap.size 31 i0 _ 5 56 Try.underlying27 hi hz0 hz1 hz2 rfl (by omega) _ j _ (by rfl) (unhide HRn _) _ _ 1 1 _ (by rfl) (RdV.of_own (base := 0) (size := 5) (World.ownsRow_lit _ #[.int .i64 0, .int .i64 s.ep, .int .i64 ((a : Int) + 1 + j), .int .i64 s.got, .slice x.2.1 x.1.length x.2.2] 1 (Nat.zero_le _) (by simp [maxLen]) rfl)) rfl (by intro u hu; simp at hu; rcases hu with rfl | rfl | rfl | rfl | rfl <;> rfl) (by simp only [maxLen]; omega) (by omega) (by have h2 := (unhide HB).size; simp; omega) ?_
                     intro A3 c3 w3 hown3 hg3 hat3 hbel3 hcc3
                     have HO3 := hide hown3; have HB3 : Hid (Below w.heap.size w w3) := hide (((below_drewN' (unhide HB) _).alloc (by have h2 := (unhide HB).size; simp; omega) _).trans hbel3); clear hown3 hg3 hat3 hbel3)
      all_goals go_wp2_with fail
      all_goals
        refine ⟨⟨j + 1, A3, c3, by omega, by first | rw [hw3] | go_num, rfl, ?_, unhide HB3⟩, by simp [intOf]; omega⟩
        have hl : (Q.take j).length = j := by rw [List.length_take]; omega
        rw [unhide HXM, outCells_snoc, hl, Nat.zero_add]
        exact unhide HO3
    · obtain rfl : j = Q.length := by omega
      have f1 : decide ((a : Int) + 1 + Q.length ≤ (a : Int) + Q.length) = false := decide_eq_false (by omega)
      go_wp2_with (go_at_call 28; refine (unhide HL _ (unhide HHr)).mono ?_; rintro _ w2 ⟨rfl, n2, rfl⟩)
      go_ret
      have h := own_drewN (unhide HRow) n2
      rw [List.take_length] at h
      exact ⟨Q.length, Ao, co, Q, rfl, rfl, (unhide HQ).symm, h, below_drewN' (unhide HB) _⟩
end Go.Proofs.Ytmmkjphkfhgcpaa
