/- An end of a link and the document's end, both in memory. -/
import Derived.Test.YtmmkjphkfhgcpaaLinkPlayMath
import Derived.Test.YtmmkjphkfhgcpaaLinkRefInB
namespace Go.Proofs.Ytmmkjphkfhgcpaa
set_option linter.unusedVariables false
open Go.RowKit

/-- both ends in memory, apart -/
structure Two (w wr : World) (p B pm : Nat) (s : LS) (r : RS) : Prop where
  e : EndAt wr p s
  f : RefAt wr B pm r
  sep : ∀ k, s.wv.ownBlock = some k → (Value.slice r.sA r.S.length r.sc).ownBlock ≠ some k
  mine : Mine w.heap.size p s
  ge : w.heap.size ≤ B
  bel : Below w.heap.size w wr
section
variable {w wr w' : World} {p B pm : Nat} {s s' : LS} {r r' : RS}
theorem Two.apart (h : Two w wr p B pm s r) (k : Nat) (hk : Foot p s k) : ¬ RFoot pm r k := fun hr => by
  have ht : ∀ {t u : TypeId} {a b : Array Value}, Blk wr k t a → Blk wr k u b → t ≠ u → False := fun h1 h2 h3 => h3 (blk_types h1 h2)
  rcases hk with rfl | rfl | hk
  · rcases hr with rfl | hr | hr
    · exact ht h.e.blk h.f.blk (by decide)
    · obtain ⟨cur, hb⟩ := own_at h.f.sent hr
      exact ht h.e.blk hb (by decide)
    · obtain ⟨cur, hb⟩ := own_at h.f.came hr
      exact ht h.e.blk hb (by decide)
  · obtain ⟨es, c, hm⟩ := Kp.blk h.e.kp
    have nob : ∀ {t : TypeId} {a : Array Value}, Blk wr s.m t a → False := fun hb => by
      unfold Blk at hb
      rw [hm] at hb
      injection hb with hb
      cases hb
    rcases hr with e | hr | hr
    · exact nob (e ▸ h.f.blk)
    · obtain ⟨cur, hb⟩ := own_at h.f.sent hr
      exact nob hb
    · obtain ⟨cur, hb⟩ := own_at h.f.came hr
      exact nob hb
  · obtain ⟨cur, hq⟩ := h.e.que.blk k hk
    rcases hr with rfl | hr | hr
    · exact ht hq h.f.blk (by decide)
    · exact h.sep k hk hr
    · obtain ⟨cur2, hb⟩ := own_at h.f.came hr
      exact ht hq hb (by decide)
theorem Two.size (h : Two w wr p B pm s r) : w.heap.size ≤ wr.heap.size := h.bel.size
theorem Two.new (h : Two w wr p B pm s r) (hb : Below wr.heap.size wr w') : Two w w' p B pm s r :=
  ⟨h.e.new hb, h.f.new hb, h.sep, h.mine, h.ge, h.bel.trans (hb.mono h.size)⟩
theorem Two.drewN (h : Two w wr p B pm s r) (n : Nat) : Two w (wr.drewN n) p B pm s r := h.new (below_drewN' (Below.refl _ _) n)
theorem Two.link (h : Two w wr p B pm s r) (st : Stepped wr w' p s s') : Two w w' p B pm s' r := by
  obtain ⟨h1, h2⟩ := st.below h.bel h.size h.mine
  refine ⟨st.at_, h.f.only st.only st.by_ (fun k hk hf => h.apart k hf hk), fun k hk e => ?_, h2, h.ge, h1⟩
  rcases st.foot k (.inr (.inr hk)) with h3 | h3
  · exact h.apart k h3 (.inr (.inl e))
  · have := (h.f.mem (k := k) (.inr (.inl e))).2; omega
theorem Two.ref (h : Two w wr p B pm s r) (ha : RefAt w' B pm r') (ho : Only (RFoot pm r) wr w') (hb : By wr w') (hf : (Value.slice r'.sA r'.S.length r'.sc).ownBlock = (Value.slice r.sA r.S.length r.sc).ownBlock ∨ ∀ k, (Value.slice r'.sA r'.S.length r'.sc).ownBlock = some k → wr.heap.size ≤ k) : Two w w' p B pm s r' := by
  refine ⟨h.e.only ho hb h.apart, ha, fun k hk e => ?_, h.mine, h.ge, h.bel.trans (ho.below h.size (fun k hk => by have := (h.f.mem hk).1; have := h.ge; omega))⟩
  rcases hf with h1 | h1
  · exact h.sep k hk (h1 ▸ e)
  · have := h1 k e; have := h.e.foot k (.inr (.inr hk)); omega
theorem Two.refSent {sA : Option Addr} {sc : Nat} {y : Body} (h : Two w wr p B pm s r) (ha : RefAt w' B pm { r with sA := sA, sc := sc, S := r.S ++ [y] }) (ho : Only (RFoot pm r) wr w') (hb : By wr w')
    (hf : (Value.slice sA (r.S.length + 1) sc).ownBlock = (Value.slice r.sA r.S.length r.sc).ownBlock ∨ ∀ k, (Value.slice sA (r.S.length + 1) sc).ownBlock = some k → wr.heap.size ≤ k) : Two w w' p B pm s { r with sA := sA, sc := sc, S := r.S ++ [y] } :=
  h.ref ha ho hb (by
    show (Value.slice sA (r.S ++ [y]).length sc).ownBlock = _ ∨ ∀ k, (Value.slice sA (r.S ++ [y]).length sc).ownBlock = some k → _
    rw [List.length_append, List.length_singleton]
    exact hf)
end
theorem RdB.only2 {S : Nat → Prop} {w u : World} {B : Nat} {A : Option Addr} {b : List UInt8} (h : RdB w B A b) (ho : Only S w u) (hB : B ≤ w.heap.size) (hs : ∀ k, S k → B ≤ k) : RdB u B A b := h.below (ho.below hB hs)
theorem InSays.few {s s' : LS} {e sq a er : Int} {b : List UInt8} {q : Bodies} {K : Nat} (h : InSays s e sq a b s' q er) (hi : Inv s K) (hi' : Inv s' K) : (q.length : Int) ≤ 17 * K := by
  have h1 := hi.g0; have h2 := hi'.got
  rcases h with ⟨_, _, rfl, _⟩ | ⟨_, _, _, rfl, _⟩ | ⟨_, _, _, _, _, _, _, _, h⟩
  · simp; omega
  · simp; omega
  · rcases h with ⟨_, _, rfl, _⟩ | ⟨_, _, rfl, _⟩ | ⟨_, _, _, h, _⟩
    · simp; omega
    · simp; omega
    · omega
/-- the document's In of any frame -/
theorem refIn_any (B p : Nat) (s : RS) (v e sq a : Int) (A : Option Addr) (b : List UInt8) (c : Nat) (w : World) (h : RefAt w B p s) (h1 : 0 ≤ s.ak) (h2 : s.ak ≤ 1000000) (h3 : s.S.length ≤ 1000000) (h4 : s.C.length ≤ 1000000) (h5 : 0 ≤ s.got) (h6 : s.got ≤ 100000000)
    (hsm : sq ≤ 9223372036854775807) (hr : ∀ u, Only (fun k => k = p) w u → RdB u w.heap.size A b) (hb : b.length ≤ 1048576) (hwin : ∀ x ∈ s.C, x.1 ≤ s.got + 16) :
    Calls Try.prog 24 #[.pointer (some ⟨p, 0, none⟩), .agg #[.int .i64 v, .int .i64 e, .int .i64 sq, .int .i64 a, .slice A b.length c]] w (RefIn w B p s e sq a b) := by
  by_cases hbad : e ≠ s.ep ∨ sq < 0 ∨ a < 0 ∨ lastOf s < a
  · exact refIn_bad B p s v e sq a A b c w h h1 h2 h3 hbad
  · obtain rfl : e = s.ep := Decidable.of_not_not fun he => hbad (.inl he)
    have hb2 : ¬ (sq < 0 ∨ a < 0 ∨ lastOf s < a) := fun h => hbad (.inr h)
    exact refIn_ok B p s v sq a A b c w h h1 h2 h3 h4 h5 h6 (by omega) (by omega) (by omega) hsm hr hb hwin
theorem Inv.sent_ {s : LS} {K : Nat} (h : Inv s K) (hq : s.r.length < 4096) (wv : Value) (x : Body) : Inv { s with wv := wv, r := s.r ++ [x] } (K + 1) :=
  ⟨h.s0, h.g0, by show s.sent + ((s.r ++ [x]).length : Int) ≤ _; have := h.sent; rw [List.length_append, List.length_singleton]; omega, by show s.got ≤ _; have := h.got; omega, by show s.n ≤ _; have := h.n; omega, by show (s.r ++ [x]).length ≤ _; rw [List.length_append, List.length_singleton]; omega, h.win⟩
theorem Rel.sent_ {s : LS} {r : RS} {a : Nat} (h : Rel s r a) (wv : Value) (x y : Body) (sA : Option Addr) (sc : Nat) (hxy : x.1 = y.1) : Rel { s with wv := wv, r := s.r ++ [x] } { r with sA := sA, sc := sc, S := r.S ++ [y] } a :=
  ⟨h.ep, h.ra, h.sa, by show a ≤ (r.S ++ [y]).length; have := h.al; rw [List.length_append]; omega, by
    show (s.r ++ [x]).map (·.1) = ((r.S ++ [y]).drop a).map (·.1)
    rw [List.drop_append_of_le_length h.al, List.map_append, List.map_append, h.rr]
    simp [hxy], h.got, h.g0, h.kp, h.win⟩
end Go.Proofs.Ytmmkjphkfhgcpaa
