/- Small answers of an end; frames of another incarnation. -/
import Derived.Test.YtmmkjphkfhgcpaaLinkAwake
import Derived.Test.YtmmkjphkfhgcpaaLinkFrame
import Derived.Test.YtmmkjphkfhgcpaaOpenRow
import Derived.BigQuiet
namespace Go.Proofs.Ytmmkjphkfhgcpaa
set_option linter.unusedVariables false
open Go.RowKit

theorem got_any (p : Nat) (ep sent got : Int) (wv : Value) (m : Nat) (w : World) (hp : Blk w p 64 (endCells ep wv sent got m)) :
    Calls Try.prog 22 #[.pointer (some ⟨p, 0, none⟩)] w fun e w' => e = .returned (.int .i64 got) ∧ w = w' := by
  have fc := endAt hp
  go_enter Try.func22, Try.ntmps22
  go_wp2_with fail
  go_ret
  exact ⟨rfl, rfl⟩
theorem waiting_any (p : Nat) (ep sent got : Int) (A : Option Addr) (n c m : Nat) (w : World) (hp : Blk w p 64 (endCells ep (.slice A n c) sent got m)) :
    Calls Try.prog 19 #[.pointer (some ⟨p, 0, none⟩)] w fun e w' => e = .returned (.int .i64 (n : Int)) ∧ w = w' := by
  have fc := endAt hp
  go_enter Try.func19, Try.ntmps19
  go_wp2_with fail
  go_ret
  exact ⟨rfl, rfl⟩
theorem short_any (A : Option Addr) (n c : Nat) (w : World) (hnc : n ≤ c) (hc : c ≤ 9223372036854775807) :
    Calls Try.prog 20 #[.slice A n c] w fun e w' => e = .returned (.slice A (min n 300) c) ∧ w = w' := by
  go_enter Try.func20, Try.ntmps20
  go_wp2_with fail
  case inl =>
    rw [show min n 300 = 300 by omega]
    go_ret
    exact ⟨rfl, rfl⟩
  case inr =>
    rw [show min n 300 = n by omega]
    go_ret
    exact ⟨rfl, rfl⟩
set_option maxHeartbeats 1000000 in
set_option maxRecDepth 20000 in
theorem in_alien (p : Nat) (ep sent got : Int) (wv : Value) (m : Nat) (v e s a : Int) (A : Option Addr) (n c : Nat) (w : World) (hp : Blk w p 64 (endCells ep wv sent got m)) (he : e ≠ ep) :
    Calls Try.prog 14 #[.pointer (some ⟨p, 0, none⟩), .agg #[.int .i64 v, .int .i64 e, .int .i64 s, .int .i64 a, .slice A n c]] w fun e w' => e = .returned (.tuple #[.slice none 0 0, .int .i64 5]) ∧ Below w.heap.size w w' := by
  have HM0 := hide ((Mem.start w).new (t := 31) (cs := #[.int .i64 v, .int .i64 e, .int .i64 s, .int .i64 a, .slice A n c]) w.heap.size rfl)
  have fc := endAt (hp.alloc (.cells #[.int .i64 v, .int .i64 e, .int .i64 s, .int .i64 a, .slice A n c] 31))
  have fd := Lnk.cellsAt (unhide HM0).blk0
  have hx : (e != ep) = true := by simp [he]
  clear hp
  go_enter Try.func14, Try.ntmps14
  go_wp2_with fail
  go_quiet (fail)
  go_wp2_with fail
  go_ret2
  exact ⟨rfl, below_drewN' (unhide HM0).below nq⟩
theorem outCells_at (ep sent got : Int) : ∀ (q : Bodies) (i k : Nat) (x : List UInt8 × Option Addr × Nat), q[k]? = some x →
    (outCells ep sent got i q)[k * 5]? = some (.int .i64 0) ∧ (outCells ep sent got i q)[k * 5 + 1]? = some (.int .i64 ep) ∧ (outCells ep sent got i q)[k * 5 + 2]? = some (.int .i64 (sent + 1 + (i + k : Nat))) ∧ (outCells ep sent got i q)[k * 5 + 3]? = some (.int .i64 got) ∧ (outCells ep sent got i q)[k * 5 + 4]? = some (.slice x.2.1 x.1.length x.2.2)
  | [], _, _, _, h => by simp at h
  | y :: q, i, 0, x, h => by
    simp at h
    subst h
    simp [outCells]
  | y :: q, i, k + 1, x, h => by
    have ih := outCells_at ep sent got q (i + 1) k x (by simpa using h)
    rw [outCells, show (k + 1) * 5 = k * 5 + 5 by omega]
    have e : i + 1 + k = i + (k + 1) := by omega
    rw [e] at ih
    simpa using ih

set_option maxHeartbeats 2000000 in
set_option maxRecDepth 20000 in
theorem alike_any (ep sent got : Int) (q1 q2 : Bodies) (A1 A2 : Option Addr) (k c1 c2 b1 b2 : Nat) (w : World) (h1 : w.ownsRow b1 31 5 (.slice A1 k c1) k (outCells ep sent got 0 q1)) (h2 : w.ownsRow b2 31 5 (.slice A2 k c2) k (outCells ep sent got 0 q2))
    (hl1 : q1.length = k) (hl2 : q2.length = k) (he : q1.map (·.1) = q2.map (·.1)) (ho1 : Lie w q1) (ho2 : Lie w q2) (hk : k ≤ 16) :
    Calls Try.prog 21 #[.slice A1 k c1, .slice A2 k c2] w fun e w' => e = .returned (.bool true) ∧ Below w.heap.size w w' ∧ Stays w w' := by
  have HE := hide he
  clear he
  go_enter Try.func21, Try.ntmps21
  go_wp2_with fail
  go_loopw [13] (fun i wr => ∃ j : Nat, j ≤ k ∧ i = .int .i64 j ∧ wr.ownsRow b1 31 5 (.slice A1 k c1) k (outCells ep sent got 0 q1) ∧ wr.ownsRow b2 31 5 (.slice A2 k c2) k (outCells ep sent got 0 q2) ∧ Lie wr q1 ∧ Lie wr q2 ∧ Below w.heap.size w wr ∧ Stays w wr) (fun i _ => k - (intOf i).toNat)
  case atStart => exact ⟨0, Nat.zero_le _, rfl, h1, h2, ho1, ho2, Below.refl _ _, Stays.refl _⟩
  case round =>
    obtain ⟨j, hj, rfl, g1, g2, l1, l2, hbel, hst⟩ := hrel
    have H1 := hide g1
    have H2 := hide g2
    have HL1 := hide l1
    have HL2 := hide l2
    have HB := hide hbel
    have HS := hide hst
    clear h1 h2 g1 g2 l1 l2 hbel hst ho1 ho2
    by_cases hlt : j < k
    · obtain ⟨g, cap, hv, _, _⟩ := (unhide H1).form (by omega)
      obtain ⟨f, cap2, hv2, _, _⟩ := (unhide H2).form (by omega)
      obtain rfl : A1 = some ⟨g, 0, none⟩ := by injection hv
      obtain rfl : A2 = some ⟨f, 0, none⟩ := by injection hv2
      obtain ⟨x, hx⟩ : ∃ x, q1[j]? = some x := ⟨q1[j], List.getElem?_eq_getElem (by omega)⟩
      obtain ⟨y, hy⟩ : ∃ y, q2[j]? = some y := ⟨q2[j], List.getElem?_eq_getElem (by omega)⟩
      have hxy : x.1 = y.1 := by
        have h := congrArg (fun l => l[j]?) (unhide HE)
        simp only [List.getElem?_map, hx, hy, Option.map_some] at h
        exact Option.some.inj h
      obtain ⟨a0, a1, a2, a3, a4⟩ := outCells_at ep sent got q1 0 j x hx
      obtain ⟨d0, d1, d2, d3, d4⟩ := outCells_at ep sent got q2 0 j y hy
      have cx0 := ((unhide H1).cellAt (j * 5) (by omega)).trans a0
      have cx1 := ((unhide H1).cellAt (j * 5 + 1) (by omega)).trans a1
      have cx2 := ((unhide H1).cellAt (j * 5 + 2) (by omega)).trans a2
      have cx3 := ((unhide H1).cellAt (j * 5 + 3) (by omega)).trans a3
      have cx4 := ((unhide H1).cellAt (j * 5 + 4) (by omega)).trans a4
      have cy0 := ((unhide H2).cellAt (j * 5) (by omega)).trans d0
      have cy1 := ((unhide H2).cellAt (j * 5 + 1) (by omega)).trans d1
      have cy2 := ((unhide H2).cellAt (j * 5 + 2) (by omega)).trans d2
      have cy3 := ((unhide H2).cellAt (j * 5 + 3) (by omega)).trans d3
      have cy4 := ((unhide H2).cellAt (j * 5 + 4) (by omega)).trans d4
      have ex := fun nn : Nat => run_str (P := Try.prog) x.2.2 ((unhide HL1 x (List.mem_of_getElem? hx)).1.rd.drewN nn) Try.underlying22 Try.underlying5 Try.underlying9
      have ey := fun nn : Nat => run_str (P := Try.prog) y.2.2 ((unhide HL2 y (List.mem_of_getElem? hy)).1.rd.drewN nn) Try.underlying22 Try.underlying5 Try.underlying9
      rw [← hxy] at cy4 ey
      clear a0 a1 a2 a3 a4 d0 d1 d2 d3 d4 hx hy hxy hv hv2
      go_wp2_with fail
      go_quiet (fail)
      go_wp2_with fail
      refine ⟨⟨j + 1, by omega, by go_num, own_drewN (unhide H1) nq, own_drewN (unhide H2) nq, fun x hx => unhide HL1 x hx, fun x hx => unhide HL2 x hx, below_drewN' (unhide HB) nq, fun g o hg ho => unhide HS g o hg ho⟩, by simp [intOf]; omega⟩
    · obtain rfl : j = k := by omega
      go_wp2_with fail
      go_ret
      exact ⟨rfl, unhide HB, unhide HS⟩
end Go.Proofs.Ytmmkjphkfhgcpaa
