/- The document's end: Send, Out; are bodies the same. -/
import Derived.Test.YtmmkjphkfhgcpaaLinkRef
namespace Go.Proofs.Ytmmkjphkfhgcpaa
set_option linter.unusedVariables false
open Go.RowKit

theorem own_at {w : World} {b e size n g : Nat} {v : Value} {xs : List Value} (h : w.ownsRow b e size v n xs) (hv : v.ownBlock = some g) : ∃ cur, Blk w g e cur := by
  rcases h.2 with ⟨rfl, _⟩ | ⟨g2, cap, cur, rfl, _, hg, _⟩
  · cases hv
  · have hv : some g2 = some g := hv
    injection hv with hv
    subst hv
    exact ⟨cur, hg⟩
theorem blk_types {w : World} {g : Nat} {t u : TypeId} {a b : Array Value} (h : Blk w g t a) (k : Blk w g u b) : t = u := by
  unfold Blk at h k
  rw [h] at k
  injection k with k
  injection k with _ k _
theorem RefAt.apart {w : World} {B p : Nat} {s : RS} (h : RefAt w B p s) : (Value.slice s.sA s.S.length s.sc).ownBlock ≠ some p ∧ (Value.slice s.cA s.C.length s.cc).ownBlock ≠ some p ∧ ∀ k, (Value.slice s.sA s.S.length s.sc).ownBlock = some k → (Value.slice s.cA s.C.length s.cc).ownBlock ≠ some k := by
  refine ⟨fun e => ?_, fun e => ?_, fun k e e2 => ?_⟩
  · obtain ⟨cur, hb⟩ := own_at h.sent e
    exact absurd (blk_types h.blk hb) (by decide)
  · obtain ⟨cur, hb⟩ := own_at h.came e
    exact absurd (blk_types h.blk hb) (by decide)
  · obtain ⟨cur, hb⟩ := own_at h.sent e
    obtain ⟨cur2, hb2⟩ := own_at h.came e2
    exact absurd (blk_types hb hb2) (by decide)
theorem bodyinfo : (Try.prog.info? 71).map (fun i => (i.zero, i.size, i.bytes)) = some (some (.agg #[.int .i64 0, .slice none 0 0]), 2, 32) := by kernel_rfl
set_option maxHeartbeats 4000000 in
set_option maxRecDepth 20000 in
theorem refSend_any (B p : Nat) (s : RS) (b : List UInt8) (A : Option Addr) (c Bb : Nat) (w : World) (h : RefAt w B p s) (h1 : 0 ≤ s.ak) (h2 : s.ak ≤ 1099511627776) (h3 : s.S.length ≤ 1000000) (h4 : (s.S.length : Int) - s.ak < 4096) (hb : b.length ≤ 1048576) (hr : RdB w Bb A b) (hB : Bb ≤ w.heap.size) :
    Calls Try.prog 23 #[.pointer (some ⟨p, 0, none⟩), .slice A b.length c] w fun e w' => e = .returned (.int .i64 0) ∧
      ∃ sA sc x, x.1 = b ∧ RefAt w' B p { s with sA := sA, sc := sc, S := s.S ++ [x] } ∧ Only (RFoot p s) w w' ∧ By w w' ∧ ((Value.slice sA (s.S.length + 1) sc).ownBlock = (Value.slice s.sA s.S.length s.sc).ownBlock ∨ ∀ k, (Value.slice sA (s.S.length + 1) sc).ownBlock = some k → w.heap.size ≤ k) := by
  obtain ⟨i0, hi, hz0, hz1, hz2⟩ := info_parts u8info
  obtain ⟨i1, hi1, hy0, hy1, hy2⟩ := info_parts slinfo
  have fc := refAt h.blk
  have HH := hide h
  have HR := hide hr
  have hpl := h.blk.lt
  have hsz := h.ge
  have hw1 : IntKind.i64.wrap ((s.S.length : Int) - s.ak) = (s.S.length : Int) - s.ak := by rw [IntKind.wrap_i64]; omega
  have f1 : decide (4096 ≤ (s.S.length : Int) - s.ak) = false := decide_eq_false (by omega)
  clear h hr
  go_enter Try.func23, Try.ntmps23
  go_wp2_with fail
  go_quiet (fail)
  go_upto_region 5 with fail
  have HOn : Hid (∀ n : Nat, ((w.drewN n).alloc (.cells #[] 5)).ownsRow w.heap.size 5 1 (.slice (some ⟨w.heap.size, 0, none⟩) 0 0) 0 []) := hide (fun n => own_new (w.drewN n) w.heap.size #[] 5 0 [] (Nat.le_refl _) (by simp [maxLen]) rfl rfl)
  have HRn : Hid (∀ n : Nat, RdB ((w.drewN n).alloc (.cells #[] 5)) Bb A b) := hide (fun n => (RdB.drewN (unhide HR) n).alloc hB _)
  have fca : ∀ n : Nat, ((w.drewN n).alloc (.cells #[] 5)).cell? ⟨p, 1, none⟩ = some (.slice s.sA s.S.length s.sc) := fun n => (refAt (((unhide HH).drewN n).blk.alloc (.cells #[] 5))).2.1
  go_region_law (first
    | (refine step_append_any _ rfl (.tmp 24) (.tmp 25) _ rfl w.heap.size 5 i0 _ 1 1 Try.underlying22 hi hz0 hz1 hz2 rfl (by omega) _ 0 [] (by rfl) (unhide HOn _) _ A b.length c _ (by rfl) (unhide HRn _).v (by simp) oneCell_Bv (by simp only [maxLen]; omega) (by omega) (by simp) ?_
       intro A2 c2 w2 hown2 hg2 hat2 hbel2 hcc2
       rw [Nat.zero_add, List.nil_append] at hown2; rw [Nat.zero_add] at hcc2 ⊢
       have hb2 : Below w.heap.size w w2 := (((below_drewN' (Below.refl _ w) _).alloc (by simp) (.cells #[] 5)).trans hbel2)
       have HB2 := hide hb2; have HO2 := hide hown2; have HH2 := hide ((unhide HH).new hb2); have fc2 := refAt (unhide HH2).blk; have ff2 := (unhide HH2).blk.frozen 1; have fc2a := refAt ((unhide HH2).blk.alloc (.cells #[.slice A2 b.length c2] 22)); clear hown2 hg2 hat2 hbel2 hb2)
    | (refine step_append_any _ rfl (.tmp 23) (.tmp 27) _ rfl B 22 i1 _ 1 24 Try.underlying32 hi1 hy0 hy1 hy2 rfl (by omega) _ s.S.length _ (by rfl) ((unhide HH2).sent.alloc (.cells #[.slice A2 b.length c2] 22)) _ _ 1 1 [.slice A2 b.length c2] (by rfl) (RdV.one w2 _ _ _) rfl (by intro u hu; simp at hu; subst hu; rfl) (by simp only [maxLen]; omega) (by omega) (by have := (unhide HB2).size; simp; omega) ?_
       intro A3 c3 w3 hown3 hg3 hat3 hbel3 hcc3
       have HP3 := hide (((unhide HH2).blk.alloc (.cells #[.slice A2 b.length c2] 22)).grown hg3 (fun e => (unhide HH2).apart.1 e.symm))
       have fc3 := refAt (unhide HP3); have ff3 := (unhide HP3).frozen 1
       have HO3 := hide hown3; have HG3 := hide hg3; have HAT3 := hide hat3; clear hown3 hg3 hat3 hbel3))
  all_goals go_wp2_with fail
  all_goals
    go_ret
    have ap := (unhide HH2).apart
    have hp2 := (unhide HH2).blk.lt
    have o3 : Only (RFoot p s) w2 w3 := ((Only.refl (RFoot p s) w2).alloc (.cells #[.slice A2 b.length c2] 22)).trans (Only.of_grown (unhide HG3) (fun k hk => .inr (.inl hk)))
    have o4 : Only (RFoot p s) w2 (w3.setCell ⟨p, 1, none⟩ (.slice A3 (s.S.length + 1) c3)) := Only.setCell (S := RFoot p s) (p := ⟨p, 1, none⟩) o3 (.inl rfl) _
    have hby : By w2 (w3.setCell ⟨p, 1, none⟩ (.slice A3 (s.S.length + 1) c3)) := By.of_stays (((Stays.alloc w2 (.cells #[.slice A2 b.length c2] 22)).trans (Stays.grown ((unhide HH2).sent.alloc (.cells #[.slice A2 b.length c2] 22)) (by decide) (unhide HG3))).trans (Stays.setCell (i := 1) (v := .slice A3 (s.S.length + 1) c3) (unhide HP3) (by decide)))
    have oc : Only (fun k => k = p ∨ (Value.slice s.sA s.S.length s.sc).ownBlock = some k) w2 (w3.setCell ⟨p, 1, none⟩ (.slice A3 (s.S.length + 1) c3)) := Only.setCell (S := fun k => k = p ∨ (Value.slice s.sA s.S.length s.sc).ownBlock = some k) (p := ⟨p, 1, none⟩) (((Only.refl _ w2).alloc (.cells #[.slice A2 b.length c2] 22)).trans (Only.of_grown (unhide HG3) (fun k hk => .inr hk))) (.inl rfl) _
    refine ⟨rfl, A3, c3, (b, A2, c2), rfl, ⟨?_, ?_, own_only (unhide HH2).came oc (fun k hk h => ?_), ?_, fun x hx => ((unhide HH2).lieC x hx).by hby, hsz⟩, (Only.of_new (unhide HB2)).trans o4, (By.of_new (unhide HB2)).trans hby, (unhide HAT3).imp id (fun h k hk => by rw [h] at hk; injection hk with hk; have := (unhide HB2).size; simp at hk; omega)⟩
    · have h := (unhide HP3).set_ 1 (.slice A3 (s.S.length + 1) c3)
      have e : (refCells s).setIfInBounds 1 (.slice A3 (s.S.length + 1) c3) = refCells { s with sA := A3, sc := c3, S := s.S ++ [(b, A2, c2)] } := by simp [refCells]
      rw [e] at h
      exact h
    · show (w3.setCell ⟨p, 1, none⟩ (.slice A3 (s.S.length + 1) c3)).ownsRow B 22 1 (.slice A3 (s.S ++ [(b, A2, c2)]).length c3) (s.S ++ [(b, A2, c2)]).length (rowOf (s.S ++ [(b, A2, c2)]))
      rw [rowOf, List.map_append, List.length_append]
      exact ownsRow_setCell_other (unhide HO3) (fun e => by
        rcases unhide HAT3 with h | h
        · rw [h] at e; exact ap.1 e
        · rw [h] at e
          injection e with e
          simp at e
          omega) _
    · rcases h with rfl | h
      · exact ap.2.1 hk
      · exact ap.2.2 k h hk
    · intro y hy
      rcases List.mem_append.1 hy with hy | hy
      · exact ((unhide HH2).lieS y hy).by hby
      · obtain rfl := List.mem_singleton.1 hy
        exact ⟨(RdT.of_own (unhide HO2)).by hby, hcc2, hb⟩

theorem rowOf_at {q : Bodies} {i : Nat} {x : Body} (h : q[i]? = some x) : (rowOf q)[i]? = some (.slice x.2.1 x.1.length x.2.2) := by rw [rowOf, List.getElem?_map, h]; rfl
set_option maxHeartbeats 2000000 in
set_option maxRecDepth 20000 in
theorem sameBodies_any (q1 q2 : Bodies) (A1 A2 : Option Addr) (c1 c2 b1 b2 : Nat) (w : World) (h1 : w.ownsRow b1 22 1 (.slice A1 q1.length c1) q1.length (rowOf q1)) (h2 : w.ownsRow b2 22 1 (.slice A2 q2.length c2) q2.length (rowOf q2))
    (he : q1.map (·.1) = q2.map (·.1)) (ho1 : ∀ x ∈ q1, Okb w x) (ho2 : ∀ x ∈ q2, Okb w x) (hk : q1.length ≤ 1000000) :
    Calls Try.prog 18 #[.slice A1 q1.length c1, .slice A2 q2.length c2] w fun e w' => e = .returned (.bool true) ∧ ∃ n, w' = w.drewN n := by
  have hlen : q2.length = q1.length := by have := congrArg List.length he; simpa using this.symm
  rw [hlen] at h2 ⊢
  have H1 := hide h1; have H2 := hide h2; have HO1 := hide ho1; have HO2 := hide ho2; have HE := hide he
  clear h1 h2 ho1 ho2 he
  generalize hn : q1.length = n at H1 H2 hlen hk ⊢
  go_enter Try.func18, Try.ntmps18
  go_wp2_with fail
  go_loopw [5] (fun i wr => ∃ j m : Nat, j ≤ n ∧ i = .int .i64 j ∧ wr = w.drewN m) (fun i _ => n - (intOf i).toNat)
  case atStart => exact ⟨0, 0, by omega, rfl, rfl⟩
  case round =>
    obtain ⟨j, m, hj, rfl, rfl⟩ := hrel
    by_cases hlt : j < n
    · obtain ⟨x, hx⟩ : ∃ x, q1[j]? = some x := ⟨q1[j], List.getElem?_eq_getElem (by omega)⟩
      obtain ⟨y, hy⟩ : ∃ y, q2[j]? = some y := ⟨q2[j], List.getElem?_eq_getElem (by omega)⟩
      have hxy : x.1 = y.1 := by
        have h := congrArg (fun l => l[j]?) (unhide HE)
        simp only [List.getElem?_map, hx, hy, Option.map_some] at h
        exact Option.some.inj h
      obtain ⟨g, cap, hv, _, _⟩ := (unhide H1).form (by omega)
      obtain ⟨f, cap2, hv2, _, _⟩ := (unhide H2).form (by omega)
      obtain rfl : A1 = some ⟨g, 0, none⟩ := by injection hv
      obtain rfl : A2 = some ⟨f, 0, none⟩ := by injection hv2
      have cx : w.cell? ⟨g, j, none⟩ = some (.slice x.2.1 x.1.length x.2.2) := ((unhide H1).cellAt j (by omega)).trans (rowOf_at hx)
      have cy : w.cell? ⟨f, j, none⟩ = some (.slice y.2.1 y.1.length y.2.2) := ((unhide H2).cellAt j (by omega)).trans (rowOf_at hy)
      have ex := fun nn : Nat => run_str (P := Try.prog) x.2.2 ((unhide HO1 x (List.mem_of_getElem? hx)).1.rd.drewN nn) Try.underlying22 Try.underlying5 Try.underlying9
      have ey := fun nn : Nat => run_str (P := Try.prog) y.2.2 ((unhide HO2 y (List.mem_of_getElem? hy)).1.rd.drewN nn) Try.underlying22 Try.underlying5 Try.underlying9
      rw [← hxy] at cy ey
      clear hx hy hxy hv hv2
      go_wp2_with fail
      go_quiet (fail)
      go_wp2_with fail
      refine ⟨⟨j + 1, _, by omega, by go_num, rfl⟩, by simp [intOf]; omega⟩
    · obtain rfl : j = n := by omega
      go_wp2_with fail
      go_ret
      exact ⟨rfl, _, rfl⟩
end Go.Proofs.Ytmmkjphkfhgcpaa
