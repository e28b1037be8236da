/- Are rows of bytes the same, wherever they lie; what frames on their way leave as it was. -/
import Derived.Test.YtmmkjphkfhgcpaaLinkTwoMath
namespace Go.Proofs.Ytmmkjphkfhgcpaa
set_option linter.unusedVariables false
open Go.RowKit

theorem RdV.take_ {w : World} {B : Nat} {A : Option Addr} {xs : List Value} (h : RdV w B A xs) (n : Nat) : RdV w B A (xs.take n) := fun hp => by
  have : (xs.take n).length ≤ xs.length := by simp; omega
  obtain ⟨ad, e, hl, hc⟩ := h (by omega)
  exact ⟨ad, e, hl, fun j u hj => hc j u (by rw [List.getElem?_take] at hj; split at hj <;> simp_all)⟩
theorem RdV.drop_ {w : World} {B : Nat} {ad : Addr} {xs : List Value} (h : RdV w B (some ad) xs) (n : Nat) : RdV w B (some (ad.add n)) (xs.drop n) := fun hp => by
  rw [List.length_drop] at hp
  obtain ⟨a, e, hl, hc⟩ := h (by omega)
  injection e with e
  subst e
  exact ⟨_, rfl, by rw [block_of_add]; exact hl, fun j u hj => by rw [add_of_add]; exact hc _ u (by rw [← hj, List.getElem?_drop])⟩
theorem RdT.onlyP {S : Nat → Prop} {w u : World} {A : Option Addr} {l : List UInt8} (h : RdT w A l) (ho : Only S w u) (hs : ∀ k, S k → ∃ ty cur, Blk w k ty cur ∧ ty ≠ 5) : RdB u w.heap.size A l := fun hp => by
  obtain ⟨ad, cs, fz, e, hb, hc⟩ := h hp
  have hl := (Array.getElem?_eq_some_iff.1 hb).1
  refine ⟨ad, e, hl, fun j x hj => ?_⟩
  rw [ho.cell (a := ad.add j) (by rw [block_of_add]; exact hl) (by
    rw [block_of_add]
    intro hk
    obtain ⟨ty, cur, hk2, hne⟩ := hs _ hk
    unfold Blk at hk2
    rw [hb] at hk2
    injection hk2 with hk2
    injection hk2 with _ hk2 _
    exact hne hk2.symm)]
  exact hc j x hj

set_option maxHeartbeats 2000000 in
set_option maxRecDepth 20000 in
theorem sameRows_any (q1 q2 : Bodies) (A1 A2 : Option Addr) (c1 c2 B1 B2 B : Nat) (w : World) (h1 : RdV w B1 A1 (rowOf q1)) (h2 : RdV w B2 A2 (rowOf q2))
    (he : q1.map (·.1) = q2.map (·.1)) (ho1 : ∀ x ∈ q1, RdB w B x.2.1 x.1) (ho2 : ∀ x ∈ q2, RdB w B x.2.1 x.1) (hk : q1.length ≤ 1000000) :
    Calls Try.prog 18 #[.slice A1 q1.length c1, .slice A2 q1.length c2] w fun e w' => e = .returned (.bool true) ∧ ∃ n, w' = w.drewN n := by
  have hlen : q2.length = q1.length := by have := congrArg List.length he; simpa using this.symm
  have H1 := hide h1; have H2 := hide h2; have HO1 := hide ho1; have HO2 := hide ho2; have HE := hide he
  clear h1 h2 ho1 ho2 he
  generalize hn : q1.length = n at H1 H2 hlen hk ⊢
  go_enter Try.func18, Try.ntmps18
  go_wp2_with fail
  go_loopw [5] (fun i wr => ∃ j m : Nat, j ≤ n ∧ i = .int .i64 j ∧ wr = w.drewN m) (fun i _ => n - (intOf i).toNat)
  case atStart => exact ⟨0, 0, by omega, rfl, rfl⟩
  case round =>
    obtain ⟨j, m, hj, rfl, rfl⟩ := hrel
    by_cases hlt : j < n
    · obtain ⟨x, hx⟩ : ∃ x, q1[j]? = some x := ⟨q1[j], List.getElem?_eq_getElem (by omega)⟩
      obtain ⟨y, hy⟩ : ∃ y, q2[j]? = some y := ⟨q2[j], List.getElem?_eq_getElem (by omega)⟩
      have hxy : x.1 = y.1 := by
        have h := congrArg (fun l => l[j]?) (unhide HE)
        simp only [List.getElem?_map, hx, hy, Option.map_some] at h
        exact Option.some.inj h
      obtain ⟨g, hv, _, hc1⟩ := unhide H1 (by simp [rowOf]; omega)
      obtain ⟨f, hv2, _, hc2⟩ := unhide H2 (by simp [rowOf]; omega)
      subst hv hv2
      have cx : w.cell? (g.add j) = some (.slice x.2.1 x.1.length x.2.2) := hc1 j _ (rowOf_at hx)
      have cy : w.cell? (f.add j) = some (.slice y.2.1 y.1.length y.2.2) := hc2 j _ (rowOf_at hy)
      have ex := fun nn : Nat => run_str (P := Try.prog) x.2.2 ((unhide HO1 x (List.mem_of_getElem? hx)).drewN nn) Try.underlying22 Try.underlying5 Try.underlying9
      have ey := fun nn : Nat => run_str (P := Try.prog) y.2.2 ((unhide HO2 y (List.mem_of_getElem? hy)).drewN nn) Try.underlying22 Try.underlying5 Try.underlying9
      rw [← hxy] at cy ey
      clear hx hy hxy hc1 hc2
      go_wp2_with fail
      go_quiet (fail)
      go_wp2_with fail
      refine ⟨⟨j + 1, _, by omega, by go_num, rfl⟩, by simp [intOf]; omega⟩
    · obtain rfl : j = n := by omega
      go_wp2_with fail
      go_ret
      exact ⟨rfl, _, rfl⟩
theorem wayinfo : (Try.prog.info? 67).map (fun i => (i.zero, i.size, i.bytes)) = some (some (.agg #[.int .i64 0, .int .i64 0, .int .i64 0, .int .i64 0, .slice none 0 0, .bool false]), 6, 64) := by kernel_rfl
theorem quiet_first {P : Program} {f : FuncId} {args : Array Value} {w : World} {x : Nat} {v : Value}
    (h : Calls P f args (w.drewN x) fun e w' => e = .returned v ∧ ∃ m, w' = (w.drewN x).drewN m) : Calls P f args (w.drewN x) fun e w'' => e = .returned v ∧ ∃ m, w'' = w.drewN m :=
  h.mono fun _ _ ⟨he, m, hm⟩ => ⟨he, x + m, by rw [hm, World.drewN_drewN]⟩
theorem rowOf_one (q : Bodies) : ∀ u ∈ rowOf q, u.oneCell' = true := by
  intro u hu
  obtain ⟨x, _, rfl⟩ := List.mem_map.1 hu
  rfl
theorem wayCells_one (r : List Way) : ∀ u ∈ wayCells r, u.oneCell' = true := by
  intro u hu
  unfold wayCells at hu
  obtain ⟨x, _, hx⟩ := List.mem_flatMap.1 hu
  simp only [List.mem_cons, List.not_mem_nil, or_false] at hx
  rcases hx with rfl | rfl | rfl | rfl | rfl | rfl <;> rfl
theorem wayCells_take (r : List Way) (n : Nat) : (wayCells r).take (n * 6) = wayCells (r.take n) := by
  rw [← List.take_append_drop n r, wayCells_app, List.take_append_drop]
  rcases Nat.lt_or_ge n r.length with h | h
  · rw [List.take_left' (by rw [wayCells_len, List.length_take]; omega)]
  · rw [List.drop_eq_nil_of_le h, List.take_of_length_le h]
    rw [List.take_of_length_le (by rw [List.length_append, wayCells_len]; simp [wayCells]; omega)]
    simp [wayCells]
theorem wayCells_drop (r : List Way) (n : Nat) : (wayCells r).drop (n * 6) = wayCells (r.drop n) := by
  rcases Nat.lt_or_ge n r.length with h | h
  · have e : wayCells r = wayCells (r.take n) ++ wayCells (r.drop n) := by rw [← wayCells_app, List.take_append_drop]
    rw [e, List.drop_left' (by rw [wayCells_len, List.length_take]; omega)]
  · rw [List.drop_eq_nil_of_le h, List.drop_eq_nil_of_le (by rw [wayCells_len]; omega)]
    rfl
section
variable {w0 w w' : World} {pt pa pb : Nat} {sa sb : LS} {t : TR}
/-- rows of frames of another's stand while the row of those on their way is written -/
theorem TwoSt.frames {w1 w3 : World} {o : Obj} {v' : Value} {i base n : Nat} {v : Value} {xs : List Value} (h : TwoSt w0 w1 pt pa pb sa sb t) (hg : (w1.alloc o).grownBy w3 (rowV t).ownBlock) (hr : w1.ownsRow base 31 5 v n xs) :
    (w3.setCell ⟨pt, i, none⟩ v').ownsRow base 31 5 v n xs ∧ By w1 (w3.setCell ⟨pt, i, none⟩ v') := by
  have ho : Only (fun k => k = pt ∨ (rowV t).ownBlock = some k) w1 (w3.setCell ⟨pt, i, none⟩ v') := pushed hg
  refine ⟨own_only hr ho fun k hk hS => ?_, By.two ho fun k hk hS => ?_⟩
  · obtain ⟨cur, hb⟩ := own_at hr hk
    rcases hS with rfl | hS
    · exact absurd (blk_types h.tt.blk hb) (by decide)
    · obtain ⟨cur2, hb2⟩ := own_at h.tt.row hS
      exact absurd (blk_types hb2 hb) (by decide)
  · rcases hS with rfl | hS
    · exact ⟨_, _, h.tt.blk, by decide⟩
    · obtain ⟨cur, hb⟩ := own_at h.tt.row hS
      exact ⟨_, _, hb, by decide⟩
theorem TwoSt.setRowBy {w1 w3 : World} {i : Nat} {v : Value} (h : TwoSt w0 w1 pt pa pb sa sb t) (hb1 : Below w1.heap.size w1 w3) : By w1 (w3.setCell ⟨pt, i, none⟩ v) :=
  By.two (Only.setCell (S := fun k => k = pt) (p := ⟨pt, i, none⟩) (Only.of_new hb1) rfl _) fun k hk hS => by
    subst hS
    exact ⟨_, _, h.tt.blk, by decide⟩
end
end Go.Proofs.Ytmmkjphkfhgcpaa
