/- An end of a link and the document's end: what holds of both. No program in sight. -/
import Derived.Test.YtmmkjphkfhgcpaaLinkRefIn
namespace Go.Proofs.Ytmmkjphkfhgcpaa
set_option linter.unusedVariables false
open Go.RowKit

structure Rel (s : LS) (r : RS) (a : Nat) : Prop where
  ep : s.ep = r.ep
  ra : r.ak = a
  sa : s.sent = a
  al : a ≤ r.S.length
  rr : s.r.map (·.1) = (r.S.drop a).map (·.1)
  got : s.got = r.got
  g0 : 0 ≤ s.got
  kp : ∀ c, s.got < c → (s.M c).map (·.1) = (keptOf r.C c).map (·.1)
  win : ∀ x ∈ r.C, x.1 ≤ r.got + 16
theorem Rel.len {s : LS} {r : RS} {a : Nat} (h : Rel s r a) : s.r.length = r.S.length - a := by
  have := congrArg List.length h.rr
  simpa using this
theorem Rel.last {s : LS} {r : RS} {a : Nat} (h : Rel s r a) : lastOf r = s.sent + min (s.r.length : Int) 16 := by
  unfold lastOf
  have h1 := h.len
  have h2 := h.al
  have h3 := h.sa
  rw [h.ra, h3]
  split <;> omega
theorem keptOf_snoc (C : List (Int × Body)) (sq : Int) (x : Body) (c : Int) : keptOf (C ++ [(sq, x)]) c = (keptOf C c).or (if c = sq then some x else none) := by
  unfold keptOf
  rw [List.find?_append]
  by_cases hc : c = sq
  · subst hc
    rw [if_pos rfl]
    cases h : C.find? (fun x => x.1 == c) <;> simp
  · rw [if_neg hc]
    have : (sq == c) = false := beq_eq_false_iff_ne.2 (fun e => hc e.symm)
    cases h : C.find? (fun x => x.1 == c) <;> simp [this]
/-- one In of both: the same error, the same bodies, and they go on alike -/
theorem rel_in {s s' : LS} {r r' : RS} {a : Nat} {e sq ak er er' : Int} {b : List UInt8} {q q' : Bodies} (h : Rel s r a) (h1 : InSays s e sq ak b s' q er) (h2 : RefSays r e sq ak b r' q' er') :
    er = er' ∧ q.map (·.1) = q'.map (·.1) ∧ ∃ a', Rel s' r' a' := by
  have hlast := h.last
  have hlen := h.len
  have hsa := h.sa
  obtain ⟨g1, g2, h2⟩ := h2
  rcases h2 with ⟨c1, rfl, rfl, rfl⟩ | ⟨c1, c2, rfl, rfl, rfl⟩ | ⟨c1, c2, c3, c4, c5, h2⟩
  · rcases h1 with ⟨d1, rfl, rfl, rfl⟩ | ⟨d1, _⟩ | ⟨d1, _⟩
    · exact ⟨rfl, rfl, a, h⟩
    · exact absurd (d1.trans h.ep) c1
    · exact absurd (d1.trans h.ep) c1
  · rcases h1 with ⟨d1, _⟩ | ⟨d1, d2, rfl, rfl, rfl⟩ | ⟨d1, d2, d3, d4, _⟩
    · exact absurd (c1.trans h.ep.symm) d1
    · exact ⟨rfl, rfl, a, h⟩
    · rw [hlast] at c2; omega
  · rcases h1 with ⟨d1, _⟩ | ⟨d1, d2, _⟩ | ⟨d1, d2, d3, d4, e1, e2, e3, e4, h1⟩
    · exact absurd (c1.trans h.ep.symm) d1
    · rw [hlast] at c4; omega
    · have hra := h.ra
      have hgot := h.got
      have hg0 := h.g0
      have hal := h.al
      obtain ⟨a', ha'⟩ : ∃ a' : Nat, max s.sent ak = a' := ⟨(max s.sent ak).toNat, by omega⟩
      have hd : (s'.sent - s.sent).toNat = a' - a := by omega
      have base : ∀ (x1 : s'.got = r'.got) (x2 : 0 ≤ s'.got) (x3 : ∀ c, s'.got < c → (s'.M c).map (·.1) = (keptOf r'.C c).map (·.1)) (x4 : ∀ x ∈ r'.C, x.1 ≤ r'.got + 16), ∃ a', Rel s' r' a' := fun x1 x2 x3 x4 => ⟨a', by rw [e1, g1]; exact h.ep, by omega, by omega, by rw [g2]; omega, by
        rw [e3, hd, g2, List.map_drop, h.rr, ← List.map_drop, List.drop_drop, show a + (a' - a) = a' by omega], x1, x2, x3, x4⟩
      rcases h1 with ⟨i1, rfl, rfl, i4, i5⟩ | ⟨i1, rfl, rfl, i4, i5⟩ | ⟨i1, i2, rfl, i4, M1, hM1, i5, hq, hn⟩
      · rcases h2 with ⟨j1, rfl, rfl, j4, j5⟩ | ⟨j1, _⟩ | ⟨j1, _⟩
        · exact ⟨rfl, rfl, base (by omega) (by omega) (fun c hc => by rw [i5, j5]; exact h.kp c (by omega)) (fun x hx => by rw [j5] at hx; have := h.win x hx; omega)⟩
        · omega
        · omega
      · rcases h2 with ⟨j1, _⟩ | ⟨j1, rfl, rfl, j4, j5⟩ | ⟨j1, j2, _⟩
        · omega
        · exact ⟨rfl, rfl, base (by omega) (by omega) (fun c hc => by rw [i5, j5]; exact h.kp c (by omega)) (fun x hx => by rw [j5] at hx; have := h.win x hx; omega)⟩
        · omega
      · rcases h2 with ⟨j1, _⟩ | ⟨j1, _⟩ | ⟨j1, j2, rfl, j4, hC, hq', hn'⟩
        · omega
        · omega
        · have hks := h.kp sq i1
          have K1 : ∀ c, s.got < c → (M1 c).map (·.1) = (keptOf r'.C c).map (·.1) := by
            intro c hc
            rcases hM1 with ⟨m1, rfl⟩ | ⟨m1, x, mx, rfl⟩
            · rcases hC with ⟨_, k2⟩ | ⟨k1, _⟩
              · rw [k2]; exact h.kp c hc
              · rw [k1] at hks
                cases hm : s.M sq with
                | none => rw [hm] at m1; cases m1
                | some y => rw [hm] at hks; cases hks
            · rcases hC with ⟨k1, _⟩ | ⟨k1, y, my, k2⟩
              · rw [m1] at hks
                cases hm : keptOf r.C sq with
                | none => rw [hm] at k1; cases k1
                | some y => rw [hm] at hks; cases hks
              · rw [k2, keptOf_snoc]
                by_cases hcs : c = sq
                · rw [hcs, upd_same, k1, if_pos rfl]
                  simp [mx, my]
                · rw [upd_other s.M _ hcs, if_neg hcs, Option.or_none]
                  exact h.kp c hc
          have hlq : q.length = q'.length := by
            rcases Nat.lt_trichotomy q.length q'.length with hl | hl | hl
            · have h1 := K1 (s.got + 1 + q.length) (by omega)
              rw [hn, hgot, hq' q.length _ (List.getElem?_eq_getElem hl)] at h1
              cases h1
            · exact hl
            · have h1 := K1 (s.got + 1 + q'.length) (by omega)
              rw [hq q'.length _ (List.getElem?_eq_getElem hl), hgot, hn'] at h1
              cases h1
          refine ⟨rfl, ?_, base (by omega) (by omega) (fun c hc => ?_) (fun x hx => ?_)⟩
          · apply List.ext_getElem?
            intro i
            rcases Nat.lt_or_ge i q.length with hi | hi
            · have h1 := K1 (s.got + 1 + i) (by omega)
              rw [hq i _ (List.getElem?_eq_getElem hi), hgot, hq' i _ (List.getElem?_eq_getElem (by omega))] at h1
              rw [List.getElem?_map, List.getElem?_map, List.getElem?_eq_getElem hi, List.getElem?_eq_getElem (by omega)]
              exact h1
            · rw [List.getElem?_eq_none (by simpa using hi), List.getElem?_eq_none (by simp; omega)]
          · rw [i5]
            dsimp only
            rw [if_neg (by omega)]
            exact K1 c (by omega)
          · rcases hC with ⟨_, k2⟩ | ⟨_, y, _, k2⟩
            · rw [k2] at hx
              have := h.win x hx
              omega
            · rw [k2] at hx
              rcases List.mem_append.1 hx with hx | hx
              · have := h.win x hx
                omega
              · obtain rfl := List.mem_singleton.1 hx
                show sq ≤ r'.got + 16
                omega
end Go.Proofs.Ytmmkjphkfhgcpaa
