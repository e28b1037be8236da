/- Two ends of a link: what always holds of them, whatever becomes of the frames. -/
import Derived.Test.YtmmkjphkfhgcpaaLinkTwo
namespace Go.Proofs.Ytmmkjphkfhgcpaa
set_option linter.unusedVariables false
open Go.RowKit

structure TInv (ep : Int) (sa sb : LS) (t : TR) (K : Nat) : Prop where
  ia : Inv sa K
  ib : Inv sb K
  epa : sa.ep = ep
  epb : sb.ep = ep
  ra : ∃ a : Nat, sa.sent = a ∧ a ≤ t.came.length ∧ t.came.length ≤ a + 16 ∧ sa.r.map (·.1) = (t.sent.drop a).map (·.1)
  gota : sa.got = 0
  ma : ∀ c, sa.M c = none
  gotb : sb.got = t.came.length
  sb0 : sb.sent = 0
  rb : sb.r = []
  cm : t.came.map (·.1) = (t.sent.take t.came.length).map (·.1)
  cl : t.came.length ≤ t.sent.length
  kb : ∀ (c : Int) (x : Body), sb.M c = some x → ∃ n : Nat, c = n + 1 ∧ c ≤ sa.sent + 16 ∧ ∃ y : Body, t.sent[n]? = some y ∧ y.1 = x.1
  rows : ∀ x ∈ t.row, x.1 = ep ∧ ((x.2.2.2.2 = true ∧ x.2.2.1 = 0 ∧ ∃ n : Nat, x.2.1 = n + 1 ∧ x.2.1 ≤ sa.sent + 16 ∧ ∃ y : Body, t.sent[n]? = some y ∧ y.1 = x.2.2.2.1.1) ∨ (x.2.2.2.2 = false ∧ x.2.1 = 0 ∧ 0 ≤ x.2.2.1 ∧ x.2.2.1 ≤ t.came.length ∧ x.2.2.2.1.1 = []))
  sl : t.sent.length ≤ K
  small : ∀ x ∈ t.sent, x.1.length ≤ 100
section
variable {ep : Int} {sa sb sa' sb' : LS} {t t' : TR} {K K' : Nat}
theorem TInv.mono (h : TInv ep sa sb t K) (hk : K ≤ K') : TInv ep sa sb t K' :=
  ⟨h.ia.mono hk, h.ib.mono hk, h.epa, h.epb, h.ra, h.gota, h.ma, h.gotb, h.sb0, h.rb, h.cm, h.cl, h.kb, h.rows, Nat.le_trans h.sl hk, h.small⟩
theorem TInv.rlen (h : TInv ep sa sb t K) : (sa.r.length : Int) = t.sent.length - sa.sent ∧ 0 ≤ sa.sent ∧ sa.sent ≤ t.came.length ∧ (t.came.length : Int) ≤ sa.sent + 16 ∧ t.came.length ≤ t.sent.length := by
  obtain ⟨a, h1, h2, h3, h4⟩ := h.ra
  have := congrArg List.length h4
  simp at this
  have := h.cl
  omega
/-- the first end sends a body -/
theorem TInv.send (h : TInv ep sa sb t K) (hq : sa.r.length < 4096) (wv : Value) (x y : Body) (hxy : x.1 = y.1) (hy : y.1.length ≤ 100) (tA : Option Addr) (tc : Nat) :
    TInv ep { sa with wv := wv, r := sa.r ++ [x] } sb { t with tA := tA, tc := tc, sent := t.sent ++ [y] } (K + 1) := by
  obtain ⟨a, h1, h2, h3, h4⟩ := h.ra
  have hcl := h.cl
  have hap : ∀ {n : Nat} {z : Body}, t.sent[n]? = some z → (t.sent ++ [y])[n]? = some z := fun hz => by
    rw [List.getElem?_append_left (List.getElem?_eq_some_iff.1 hz).1, hz]
  refine ⟨h.ia.sent_ hq wv x, h.ib.mono (Nat.le_succ _), h.epa, h.epb, ⟨a, h1, h2, h3, ?_⟩, h.gota, h.ma, h.gotb, h.sb0, h.rb, ?_, ?_, fun c z hz => ?_, fun z hz => ?_, ?_, fun z hz => ?_⟩
  · show (sa.r ++ [x]).map (·.1) = ((t.sent ++ [y]).drop a).map (·.1)
    rw [List.drop_append_of_le_length (by omega), List.map_append, List.map_append, h4]
    simp [hxy]
  · show t.came.map (·.1) = ((t.sent ++ [y]).take t.came.length).map (·.1)
    rw [List.take_append_of_le_length h.cl]
    exact h.cm
  · show t.came.length ≤ (t.sent ++ [y]).length
    rw [List.length_append]
    omega
  · obtain ⟨n, g1, g2, u, g3, g4⟩ := h.kb c z hz
    exact ⟨n, g1, g2, u, hap g3, g4⟩
  · obtain ⟨g0, g⟩ := h.rows z hz
    refine ⟨g0, ?_⟩
    rcases g with ⟨g1, g2, n, g3, g4, u, g5, g6⟩ | g
    · exact .inl ⟨g1, g2, n, g3, g4, u, hap g5, g6⟩
    · exact .inr g
  · show (t.sent ++ [y]).length ≤ K + 1
    have := h.sl
    rw [List.length_append, List.length_singleton]
    omega
  · rcases List.mem_append.1 hz with hz | hz
    · exact h.small z hz
    · obtain rfl := List.mem_singleton.1 hz
      exact hy
/-- other frames on their way -/
theorem TInv.setRows (h : TInv ep sa sb t K) (row : List Way) (rA : Option Addr) (rc : Nat) (hr : ∀ x ∈ row, x ∈ t.row ∨ (x.1 = ep ∧ ((x.2.2.2.2 = true ∧ x.2.2.1 = 0 ∧ ∃ n : Nat, x.2.1 = n + 1 ∧ x.2.1 ≤ sa.sent + 16 ∧ ∃ y : Body, t.sent[n]? = some y ∧ y.1 = x.2.2.2.1.1) ∨ (x.2.2.2.2 = false ∧ x.2.1 = 0 ∧ 0 ≤ x.2.2.1 ∧ x.2.2.1 ≤ t.came.length ∧ x.2.2.2.1.1 = [])))) :
    TInv ep sa sb { t with rA := rA, rc := rc, row := row } K :=
  ⟨h.ia, h.ib, h.epa, h.epb, h.ra, h.gota, h.ma, h.gotb, h.sb0, h.rb, h.cm, h.cl, h.kb, fun x hx => (hr x hx).elim (h.rows x) id, h.sl, h.small⟩
/-- a frame of those that are out -/
theorem TInv.outOne (h : TInv ep sa sb t K) {i : Nat} {z : Body} (hi : i < 16) {z0 : List UInt8} (hz : (sa.r.map (·.1))[i]? = some z.1) : sa.ep = ep ∧ sa.got = 0 ∧ ∃ n : Nat, sa.sent + 1 + i = n + 1 ∧ sa.sent + 1 + i ≤ sa.sent + 16 ∧ ∃ y : Body, t.sent[n]? = some y ∧ y.1 = z.1 := by
  obtain ⟨a, h1, h2, h3, h4⟩ := h.ra
  rw [h4, List.getElem?_map, List.getElem?_drop, Option.map_eq_some_iff] at hz
  obtain ⟨y, hy, he⟩ := hz
  exact ⟨h.epa, h.gota, a + i, by omega, by omega, y, hy, he⟩
/-- a frame comes to the first end -/
theorem TInv.inA {x : Way} {q : Bodies} {er : Int} {b : List UInt8} (h : TInv ep sa sb t K) (hx : x.1 = ep ∧ x.2.1 = 0 ∧ 0 ≤ x.2.2.1 ∧ x.2.2.1 ≤ t.came.length) (hs : InSays sa x.1 x.2.1 x.2.2.1 b sa' q er) (hi : Inv sa' (K + 1)) :
    q = [] ∧ er = 0 ∧ TInv ep sa' sb t (K + 1) ∧ sa'.sent = max sa.sent x.2.2.1 := by
  obtain ⟨x1, x2, x3, x4⟩ := hx
  obtain ⟨a, h1, h2, h3, h4⟩ := h.ra
  obtain ⟨r1, r2, r3, r4, r5⟩ := h.rlen
  have hg := h.gota
  rcases hs with ⟨g, _⟩ | ⟨_, g, _⟩ | ⟨_, _, _, _, e1, e2, e3, e4, hs⟩
  · exact absurd (x1.trans h.epa.symm) g
  · omega
  · rcases hs with ⟨i1, i2, rfl, i4, i5⟩ | ⟨i1, _⟩ | ⟨i1, _⟩
    · refine ⟨rfl, i2, ⟨hi, h.ib.mono (Nat.le_succ _), e1.trans h.epa, h.epb, ⟨sa'.sent.toNat, by omega, by omega, by omega, ?_⟩, i4.trans hg, fun c => by rw [i5]; exact h.ma c, h.gotb, h.sb0, h.rb, h.cm, h.cl, fun c z hz => ?_, fun z hz => ?_, Nat.le_succ_of_le h.sl, h.small⟩, e2⟩
      · rw [e3, List.map_drop, h4, ← List.map_drop, List.drop_drop]
        congr 2
        omega
      · obtain ⟨n, g1, g2, u, g3, g4⟩ := h.kb c z hz
        exact ⟨n, g1, by omega, u, g3, g4⟩
      · obtain ⟨g0, g⟩ := h.rows z hz
        refine ⟨g0, ?_⟩
        rcases g with ⟨g1, g2, n, g3, g4, u, g5, g6⟩ | g
        · exact .inl ⟨g1, g2, n, g3, by omega, u, g5, g6⟩
        · exact .inr g
    · omega
    · omega
/-- a frame comes to the second end -/
theorem TInv.inB {x : Way} {q : Bodies} {er : Int} {cA : Option Addr} {cc : Nat} (h : TInv ep sa sb t K) (hx : x.1 = ep ∧ x.2.2.1 = 0 ∧ ∃ n : Nat, x.2.1 = n + 1 ∧ x.2.1 ≤ sa.sent + 16 ∧ ∃ y : Body, t.sent[n]? = some y ∧ y.1 = x.2.2.2.1.1) (hs : InSays sb x.1 x.2.1 x.2.2.1 x.2.2.2.1.1 sb' q er) (hi : Inv sb' (K + 1)) :
    er = 0 ∧ TInv ep sa sb' { t with cA := cA, cc := cc, came := t.came ++ q } (K + 1) ∧ (x.2.1 ≤ t.came.length + 1 → x.2.1 ≤ (t.came ++ q).length) := by
  obtain ⟨x1, x2, n, x3, x4, y, x5, x6⟩ := hx
  obtain ⟨a, h1, h2, h3, h4⟩ := h.ra
  obtain ⟨r1, r2, r3, r4, r5⟩ := h.rlen
  have hg := h.gotb
  have hs0 := h.sb0
  rcases hs with ⟨g, _⟩ | ⟨_, g, _⟩ | ⟨_, _, _, _, e1, e2, e3, e4, hs⟩
  · exact absurd (x1.trans h.epb.symm) g
  · omega
  · have hr' : sb'.r = [] := by rw [e3, h.rb]; simp
    have hs' : sb'.sent = 0 := by omega
    rcases hs with ⟨i1, i2, rfl, i4, i5⟩ | ⟨i1, _⟩ | ⟨i1, i2, i3, i4, M1, hM1, i5, hq, hn⟩
    · rw [List.append_nil]
      exact ⟨i2, ⟨h.ia.mono (Nat.le_succ _), hi, h.epa, e1.trans h.epb, h.ra, h.gota, h.ma, i4.trans hg, hs', hr', h.cm, h.cl, fun c z hz => h.kb c z (by rw [i5] at hz; exact hz), h.rows, Nat.le_succ_of_le h.sl, h.small⟩, fun _ => by omega⟩
    · omega
    · have hkb1 : ∀ (c : Int) (z : Body), M1 c = some z → ∃ n : Nat, c = n + 1 ∧ c ≤ sa.sent + 16 ∧ ∃ y : Body, t.sent[n]? = some y ∧ y.1 = z.1 := by
        intro c z hz
        rcases hM1 with ⟨_, rfl⟩ | ⟨_, v, hv, rfl⟩
        · exact h.kb c z hz
        · by_cases hc : c = x.2.1
          · subst hc
            rw [upd_same] at hz
            injection hz with hz
            subst hz
            exact ⟨n, x3, x4, y, x5, x6.trans hv.symm⟩
          · rw [upd_other _ _ hc] at hz
            exact h.kb c z hz
      have hqn : ∀ (i : Nat) (z : Body), q[i]? = some z → ∃ y : Body, t.sent[t.came.length + i]? = some y ∧ y.1 = z.1 ∧ (t.came.length + i + 1 : Int) ≤ sa.sent + 16 := by
        intro i z hz
        obtain ⟨m, g1, g2, u, g3, g4⟩ := hkb1 _ z (hq i z hz)
        have : m = t.came.length + i := by omega
        subst this
        exact ⟨u, g3, g4, by omega⟩
      have hlen : t.came.length + q.length ≤ t.sent.length ∧ (t.came.length + q.length : Int) ≤ sa.sent + 16 := by
        rcases Nat.eq_zero_or_pos q.length with h0 | h0
        · omega
        · obtain ⟨u, g1, _, g3⟩ := hqn (q.length - 1) _ (List.getElem?_eq_getElem (by omega))
          have := (List.getElem?_eq_some_iff.1 g1).1
          omega
      refine ⟨i3, ⟨h.ia.mono (Nat.le_succ _), hi, h.epa, e1.trans h.epb, ⟨a, h1, by show a ≤ (t.came ++ q).length; rw [List.length_append]; omega, by show (t.came ++ q).length ≤ a + 16; rw [List.length_append]; omega, h4⟩, h.gota, h.ma, by rw [i4, hg]; show (t.came.length : Int) + q.length = ((t.came ++ q).length : Nat); rw [List.length_append]; omega, hs', hr', ?_, by show (t.came ++ q).length ≤ t.sent.length; rw [List.length_append]; omega, fun c z hz => ?_, fun z hz => ?_, Nat.le_succ_of_le h.sl, h.small⟩, fun hle => ?_⟩
      · show (t.came ++ q).map (·.1) = (t.sent.take (t.came ++ q).length).map (·.1)
        rw [List.map_append, h.cm, List.length_append, List.take_add, List.map_append]
        congr 1
        apply List.ext_getElem?
        intro i
        rcases Nat.lt_or_ge i q.length with hi2 | hi2
        · obtain ⟨u, g1, g2, _⟩ := hqn i _ (List.getElem?_eq_getElem hi2)
          rw [List.getElem?_map, List.getElem?_eq_getElem hi2, List.getElem?_map, List.getElem?_take_of_lt hi2, List.getElem?_drop, g1]
          simp [g2]
        · rw [List.getElem?_eq_none (by simpa using hi2), List.getElem?_eq_none (by simp; omega)]
      · rw [i5] at hz
        dsimp only at hz
        by_cases hc : sb.got < c ∧ c ≤ sb.got + q.length
        · rw [if_pos hc] at hz; cases hz
        · rw [if_neg hc] at hz
          exact hkb1 c z hz
      · obtain ⟨g0, g⟩ := h.rows z hz
        refine ⟨g0, ?_⟩
        rcases g with g | ⟨g1, g2, g3, g4, g5⟩
        · exact .inl g
        · exact .inr ⟨g1, g2, g3, by show z.2.2.1 ≤ ((t.came ++ q).length : Nat); rw [List.length_append]; omega, g5⟩
      · rw [List.length_append]
        rcases Nat.eq_zero_or_pos q.length with h0 | h0
        · exfalso
          rw [h0] at hn
          have hxe : x.2.1 = sb.got + 1 + ((0 : Nat) : Int) := by omega
          rcases hM1 with ⟨h9, rfl⟩ | ⟨_, v, hv, rfl⟩
          · rw [hxe, hn] at h9; cases h9
          · rw [← hxe, upd_same] at hn; cases hn
        · omega
end
end Go.Proofs.Ytmmkjphkfhgcpaa
