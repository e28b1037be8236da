/- Decode of both, Turn; what is read is a message. -/
import Derived.Test.YtkgacehnpdijaaaWireRdB
import Derived.Test.YtkgacehnpdijaaaWireDecR1
import Derived.Test.YtkgacehnpdijaaaWireDecR2
import Derived.Test.YtkgacehnpdijaaaWireEnc
namespace Go.Proofs.Ytkgacehnpdijaaa
set_option linter.unusedVariables false
set_option linter.unusedSimpArgs false
open Go.RowKit Wire

theorem decode_any (v : Int) (b : List UInt8) (A : Option Addr) (c B : Nat) (w : World) (hr : RdB w B A b) (hB : B ≤ w.heap.size) (hc : b.length ≤ c) (hm : c ≤ 9223372036854775807 ∧ b.length ≤ 140737488351232) : Calls Try.prog 24 #[.int .i64 v, .slice A b.length c] w (DecRes v b w) := by
  by_cases hv : v ≠ 1 ∧ v ≠ 2
  · exact decode_other v b A c w hv
  · exact decode_one v (by omega) b A c B w hr hB hc hm
theorem rdecode_any (v : Int) (b : List UInt8) (A : Option Addr) (c B : Nat) (w : World) (hr : RdB w B A b) (hB : B ≤ w.heap.size) (hc : b.length ≤ c) (hm : c ≤ 9223372036854775807 ∧ b.length ≤ 140737488351232) : Calls Try.prog 25 #[.int .i64 v, .slice A b.length c] w (DecRes v b w) := by
  by_cases hv : v ≠ 1 ∧ v ≠ 2
  · exact rdecode_other v b A c w hv
  · rcases (show v = 1 ∨ v = 2 by omega) with rfl | rfl
    · exact rdecode_1 b A c B w hr hB hc hm
    · exact rdecode_2 b A c B w hr hB hc hm
theorem own_caps {w : World} {base : Nat} {e : TypeId} {size n c : Nat} {A : Option Addr} {xs : List Value} (h : w.ownsRow base e size (.slice A n c) n xs) : n ≤ c ∧ c ≤ maxLen := by
  rcases h.2 with ⟨h1, h2⟩ | ⟨g, cap, cur, h1, _, _, h4, h5, _⟩
  · injection h1 with _ h3 h4
    subst h3 h4
    exact ⟨Nat.le_refl _, by simp [maxLen]⟩
  · injection h1 with _ _ h6
    subst h6
    exact ⟨h4, h5⟩
theorem good_ints {m : Ms} (g : Wire.Good m) : MsI m := by
  have k0 := g.k0
  have k1 := g.k1
  refine ⟨⟨by omega, by omega⟩, fun v hv => ?_, ?_, ?_, ?_, ?_, ?_⟩
  · have h := g.vers v hv
    have := h.d0; have := h.d1; have := h.t0; have := h.t1
    exact ⟨⟨by omega, by omega⟩, by omega, by omega⟩
  · have h := g.cmd.kind; exact ⟨by have := h.1; omega, by have := h.2; omega⟩
  · have h := g.cmd.dc; exact ⟨by have := h.1; omega, by have := h.2; omega⟩
  · have h := g.cmd.shard; exact ⟨by have := h.1; omega, by have := h.2; omega⟩
  · have h := g.cmd.node; exact ⟨by have := h.1; omega, by have := h.2; omega⟩
  · have h := g.cmd.mode; exact ⟨by have := h.1; omega, by have := h.2; omega⟩
theorem ms0_ok : Rng ms0 ∧ MsI ms0 := ⟨⟨⟨by decide, by decide⟩, ⟨by decide, by decide⟩, ⟨by decide, by decide⟩, fun v hv => absurd hv (by simp [ms0, mkMs]), fun v hv => absurd hv (by simp [ms0, mkMs])⟩, ⟨⟨by decide, by decide⟩, fun v hv => absurd hv (by simp [ms0, mkMs]), ⟨by decide, by decide⟩, ⟨by decide, by decide⟩, ⟨by decide, by decide⟩, ⟨by decide, by decide⟩, ⟨by decide, by decide⟩⟩⟩
/-- what was read is a message in memory -/
theorem dec_okq {v : Int} {b : List UInt8} {w : World} {base : Nat} {A : Option Addr} {c : Nat} {vA : Option Addr} {vc : Nat} (h : MOwn w base (decM v b) A c vA vc) : Mq.Ok ⟨decM v b, A, c, vA, vc⟩ w w.heap.size := by
  have key : (decM v b).vers.length ≤ 140737488351232 ∧ (decM v b).vec.length ≤ 140737488351232 ∧ Rng (decM v b) ∧ MsI (decM v b) := by
    rcases dec_cases v b with ⟨_, h0⟩ | ⟨_, _, _, g, r, _⟩
    · rw [h0]
      exact ⟨by decide, by decide, ms0_ok.1, ms0_ok.2⟩
    · have h1 := g.nv
      have h2 := g.nc
      exact ⟨by omega, by omega, r, good_ints g⟩
  exact ⟨RdV.of_own h.vers, RdV.of_own h.vec, (own_caps h.vers).1, key.1, (own_caps h.vec).1, key.2.1, key.2.2.1, key.2.2.2⟩
theorem MOwn.below {w w' : World} {base : Nat} {m : Ms} {A : Option Addr} {c : Nat} {vA : Option Addr} {vc : Nat} (h : MOwn w base m A c vA vc) (hb : Below w.heap.size w w') : MOwn w' base m A c vA vc :=
  ⟨own_only h.vers (Only.of_new (S := fun _ => False) hb) (fun _ _ h => h), own_only h.vec (Only.of_new (S := fun _ => False) hb) (fun _ _ h => h)⟩
/-- a call that answers a message and a fault -/
def DecTo (M : Ms) (E : Int) (w : World) (e : Ending) (w' : World) : Prop :=
  ∃ A c vA vc, e = .returned (.tuple #[.agg (mcells M A c vA vc), .int .i64 E]) ∧ Mq.Ok ⟨M, A, c, vA, vc⟩ w' w'.heap.size ∧ MOwn w' w.heap.size M A c vA vc ∧ Below w.heap.size w w'
theorem DecRes.to {v : Int} {b : List UInt8} {M : Ms} {E : Int} (hM : decM v b = M) (hE : decE v b = E) {w w' : World} {e : Ending} (h : DecRes v b w e w') : DecTo M E w e w' := by
  obtain ⟨A, c, vA, vc, rfl, ho, hb⟩ := h
  subst hM hE
  exact ⟨A, c, vA, vc, rfl, dec_okq ho, ho, hb⟩
theorem decode_to {v : Int} {b : List UInt8} {M : Ms} {E : Int} (hM : decM v b = M) (hE : decE v b = E) (A : Option Addr) (c B : Nat) (w : World) (hr : RdB w B A b) (hB : B ≤ w.heap.size) (hc : b.length ≤ c) (hm : c ≤ 9223372036854775807 ∧ b.length ≤ 140737488351232) : Calls Try.prog 24 #[.int .i64 v, .slice A b.length c] w (DecTo M E w) :=
  (decode_any v b A c B w hr hB hc hm).mono fun _ _ h => h.to hM hE
theorem rdecode_to {v : Int} {b : List UInt8} {M : Ms} {E : Int} (hM : decM v b = M) (hE : decE v b = E) (A : Option Addr) (c B : Nat) (w : World) (hr : RdB w B A b) (hB : B ≤ w.heap.size) (hc : b.length ≤ c) (hm : c ≤ 9223372036854775807 ∧ b.length ≤ 140737488351232) : Calls Try.prog 25 #[.int .i64 v, .slice A b.length c] w (DecTo M E w) :=
  (rdecode_any v b A c B w hr hB hc hm).mono fun _ _ h => h.to hM hE
/-- a call that answers bytes and a fault -/
def EncTo (E : Int) (l : List UInt8) (w : World) (e : Ending) (w' : World) : Prop :=
  ∃ A n c, e = .returned (.tuple #[.slice A n c, .int .i64 E]) ∧ l.length = n ∧ w'.ownsRow w.heap.size 5 1 (.slice A n c) n (l.map Bv) ∧ Below w.heap.size w w' ∧ n ≤ c
theorem EncRes.to {v : Int} {m : Ms} {E : Int} {l : List UInt8} (hE : encE v m = E) (hl : encB v m = l) {w w' : World} {e : Ending} (h : EncRes v m w e w') : EncTo E l w e w' := by
  subst hE hl
  exact h
/-- how a read comes out, as letters -/
theorem dec_say {v : Int} {b : List UInt8} {M : Ms} {E : Int} (hM : decM v b = M) (hE : decE v b = E) : (E ≠ 0 ∧ M = ms0) ∨ ((v = 1 ∨ v = 2) ∧ E = 0 ∧ decOf v b = .ok M ∧ chkOf M = 0 ∧ Rng M ∧ b = encOf v M) := by
  rcases dec_cases v b with ⟨h1, h2⟩ | ⟨h1, h2, h3, h4, h5, h6⟩
  · rw [hE] at h1; rw [hM] at h2; exact .inl ⟨h1, h2⟩
  · rw [hE] at h2; rw [hM] at h3 h4 h5 h6; exact .inr ⟨h1, h2, h3, (chk_iff M).2 h4, h5, h6⟩
end Go.Proofs.Ytkgacehnpdijaaa
