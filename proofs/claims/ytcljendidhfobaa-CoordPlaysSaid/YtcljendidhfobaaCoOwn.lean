/- What is handed in, being spoilt behind a call: rows whose marks may be anything. -/
import Derived.Test.YtcljendidhfobaaCoLawB
import Derived.Test.YtcljendidhfobaaCoWrites
namespace Go.Proofs.Ytcljendidhfobaa
set_option linter.unusedVariables false
open Go.RowKit

/-- a block of versions: whatever their marks are, they are marks -/
def Gn (w : World) (q n : Nat) : Prop := ∃ cs, Blk w q 33 cs ∧ ∀ k, k < n → ∃ b, cs[k * 6 + 2]? = some (.bool b)
theorem Gn.cell {w : World} {q n k : Nat} (h : Gn w q n) (hk : k < n) : ∃ b, w.cell? ⟨q, k * 6 + 2, none⟩ = some (.bool b) ∧ w.frozen? ⟨q, k * 6 + 2, none⟩ = false ∧ q < w.heap.size := by
  obtain ⟨cs, hb, hc⟩ := h
  obtain ⟨b, hb2⟩ := hc k hk
  exact ⟨b, (hb.cell _).trans hb2, hb.frozen _, hb.lt⟩
theorem Gn.set {w : World} {q q' n k : Nat} (h : Gn w q n) {cs' : Array Value} (hb' : Blk w q' 33 cs') (b : Bool) : Gn (w.setCell ⟨q', k * 6 + 2, none⟩ (.bool b)) q n := by
  obtain ⟨cs, hb, hc⟩ := h
  by_cases hq : q = q'
  · subst hq
    refine ⟨_, hb.set_ (k * 6 + 2) (.bool b), fun j hj => ?_⟩
    by_cases hjk : j = k
    · subst hjk
      obtain ⟨b0, h0⟩ := hc j hj
      have hlt := (Array.getElem?_eq_some_iff.1 h0).1
      exact ⟨b, by rw [Array.getElem?_setIfInBounds_self_of_lt hlt]⟩
    · obtain ⟨b0, h0⟩ := hc j hj
      exact ⟨b0, by rw [Array.getElem?_setIfInBounds_ne (by omega)]; exact h0⟩
  · exact ⟨cs, hb.only (Only.setCell (S := fun k => k = q') (p := ⟨q', k * 6 + 2, none⟩) (Only.refl _ w) rfl _) hq, hc⟩
theorem Gn.only {w w' : World} {q n : Nat} {S : Nat → Prop} (h : Gn w q n) (ho : Only S w w') (hs : ¬ S q) : Gn w' q n := by
  obtain ⟨cs, hb, hc⟩ := h
  exact ⟨cs, hb.only ho hs, hc⟩
theorem Gn.of_own {w : World} {base n c q : Nat} {vs : List Vr} (h : w.ownsRow base 33 6 (.slice (some ⟨q, 0, none⟩) n c) n (vrow vs)) : Gn w q n := by
  have hl := h.1
  rw [vrow_len] at hl
  rcases h.2 with ⟨h0, _⟩ | ⟨g, cap, cur, hv, _, hg, h1, h2, h3, h4⟩
  · cases h0
  · injection hv with hv _ _
    injection hv with hv
    injection hv with hv _
    subst hv
    refine ⟨cur, hg, fun k hk => ?_⟩
    have hkv : k < vs.length := by omega
    have hat := vrow_at (List.getElem?_eq_getElem hkv) (j := 2) (by omega)
    refine ⟨(vs[k]).gone, ?_⟩
    rw [← Array.getElem?_toList]
    have : (cur.toList.take (n * 6))[k * 6 + 2]? = cur.toList[k * 6 + 2]? := by rw [List.getElem?_take_of_lt (by omega)]
    rw [← this, h4, hat]
    rfl
/-- shares that may be spoilt: their nodes and marks are whatever -/
structure Mine (w : World) (G : Nat → Prop) (A : Option Addr) (l : List Sq) : Prop where
  row : ∀ (i : Nat) (s : Sq), l[i]? = some s → ∃ g cs, A = some ⟨g, 0, none⟩ ∧ G g ∧ Blk w g 28 cs ∧ (∀ (j : Nat) (s : Sq), l[j]? = some s → (∃ n : Int, cs[j * 2]? = some (.int .i64 n)) ∧ cs[j * 2 + 1]? = some (.slice s.A s.vs.length s.c))
  ver : ∀ s ∈ l, 0 < s.vs.length → ∃ q, s.A = some ⟨q, 0, none⟩ ∧ G q ∧ Gn w q s.vs.length
section
variable {w w' : World} {G S : Nat → Prop} {A : Option Addr} {l : List Sq}
theorem Mine.only (h : Mine w G A l) (ho : Only S w w') (hs : ∀ k, G k → ¬ S k) : Mine w' G A l :=
  ⟨fun i s hi => by
    obtain ⟨g, cs, e, hg, hb, hc⟩ := h.row i s hi
    exact ⟨g, cs, e, hg, hb.only ho (hs _ hg), hc⟩, fun s hm hn => by
    obtain ⟨q, e, hg, hq⟩ := h.ver s hm hn
    exact ⟨q, e, hg, hq.only ho (hs _ hg)⟩⟩
theorem Mine.gone (h : Mine w G A l) {q : Nat} {cs' : Array Value} (hb' : Blk w q 33 cs') (k : Nat) (b : Bool) : Mine (w.setCell ⟨q, k * 6 + 2, none⟩ (.bool b)) G A l :=
  ⟨fun i s hi => by
    obtain ⟨g, cs, e, hg, hb, hc⟩ := h.row i s hi
    exact ⟨g, cs, e, hg, hb.only (Only.setCell (S := fun k => k = q) (p := ⟨q, k * 6 + 2, none⟩) (Only.refl _ w) rfl _) (fun e => by subst e; exact absurd (blk_type hb hb') (by decide)), hc⟩, fun s hm hn => by
    obtain ⟨q2, e, hg, hq⟩ := h.ver s hm hn
    exact ⟨q2, e, hg, hq.set hb' b⟩⟩
theorem Mine.node {g : Nat} (h : Mine w G (some ⟨g, 0, none⟩) l) {cs' : Array Value} (hb' : Blk w g 28 cs') (k : Nat) (n : Int) : Mine (w.setCell ⟨g, k * 2, none⟩ (.int .i64 n)) G (some ⟨g, 0, none⟩) l :=
  ⟨fun i s hi => by
    obtain ⟨g2, cs, e, hg, hb, hc⟩ := h.row i s hi
    injection e with e
    injection e with e _
    subst e
    refine ⟨g, _, rfl, hg, hb.set_ (k * 2) _, fun j s hj => ?_⟩
    obtain ⟨⟨n0, h1⟩, h2⟩ := hc j s hj
    refine ⟨?_, by rw [Array.getElem?_setIfInBounds_ne (by omega)]; exact h2⟩
    by_cases hjk : j = k
    · subst hjk
      exact ⟨n, by rw [Array.getElem?_setIfInBounds_self_of_lt (Array.getElem?_eq_some_iff.1 h1).1]⟩
    · exact ⟨n0, by rw [Array.getElem?_setIfInBounds_ne (by omega)]; exact h1⟩, fun s hm hn => by
    obtain ⟨q, e, hg, hq⟩ := h.ver s hm hn
    exact ⟨q, e, hg, hq.only (Only.setCell (S := fun k => k = g) (p := ⟨g, k * 2, none⟩) (Only.refl _ w) rfl _) (fun e => by
      subst e
      obtain ⟨cs, hb, _⟩ := hq
      exact absurd (blk_type hb hb') (by decide))⟩⟩
theorem Mine.of_own {base n c : Nat} (h : w.ownsRow base 28 2 (.slice A n c) n (srow l)) (hv : ∀ s ∈ l, w.ownsRow base 33 6 (.slice s.A s.vs.length s.c) s.vs.length (vrow s.vs)) : Mine w (fun k => base ≤ k ∧ k < w.heap.size) A l := by
  refine ⟨fun i s hi => ?_, fun s hm hn => ?_⟩
  · have hl := h.1
    rw [srow_len] at hl
    have hil := (List.getElem?_eq_some_iff.1 hi).1
    rcases h.2 with ⟨h0, _⟩ | ⟨g, cap, cur, hv, hbg, hg, h1, h2, h3, h4⟩
    · omega
    · injection hv with hv _ _
      subst hv
      refine ⟨g, cur, rfl, ⟨hbg, (Array.getElem?_eq_some_iff.1 hg).1⟩, hg, fun j s hj => ?_⟩
      have hjl := (List.getElem?_eq_some_iff.1 hj).1
      have hx : ∀ k, k < 2 → cur[j * 2 + k]? = s.cs[k]? := fun k hk => by
        rw [← srow_at hj hk, ← h4, List.getElem?_take_of_lt (by omega), Array.getElem?_toList]
      exact ⟨⟨s.node, hx 0 (by omega)⟩, hx 1 (by omega)⟩
  · have ho := hv s hm
    obtain ⟨g, cap, hv2, hbg, hgl⟩ := ho.form hn
    have hA : s.A = some ⟨g, 0, none⟩ := by injection hv2
    rw [hA] at ho
    exact ⟨g, hA, ⟨hbg, hgl⟩, Gn.of_own ho⟩
end
/-- Start of the law: whatever it answers -/
theorem start_one (S F : Nat → Prop) (p : Nat) (A : Option Addr) (c : Nat) (l : List Sq) (w : World) (h : TabAt w S p []) (hl2 : l.length ≤ 4096) (hc : l.length ≤ c) (hs : ShsAt w F A l) (hv : ∀ s ∈ l, s.vs.length ≤ 4096) :
    Calls Try.prog 10 #[.pointer (some ⟨p, 0, none⟩), .int .u64 1, .int .u64 0, .slice A l.length c] w fun e w' =>
      ∃ (er : Int) (T : List Et) (S' : Nat → Prop), e = .returned (.int .i64 er) ∧ TabAt w' S' p T ∧ Only S w w' ∧ (∀ k, S' k → S k ∨ w.heap.size ≤ k) ∧ ((er ≠ 0 ∧ T = []) ∨ (er = 0 ∧ T = [⟨1, 0, l.map Sq.sh, [], []⟩])) := by
  by_cases hl : l = []
  · subst hl
    refine Calls.mono (start_empty p 1 0 A c w) ?_
    rintro e w' ⟨rfl, rfl⟩
    exact ⟨1, [], S, rfl, h, Only.refl _ _, fun k hk => .inl hk, .inl ⟨by omega, rfl⟩⟩
  · refine Calls.mono (start_any S F p [] 1 0 A c l w h (by omega) (by omega) rfl (by simp) hl hl2 hc hs hv) ?_
    rintro e w' (⟨_, rfl, hb⟩ | ⟨_, rfl, ht, ho⟩)
    · exact ⟨3, [], S, rfl, h.new hb, Only.of_new hb, fun k hk => .inl hk, .inl ⟨by omega, rfl⟩⟩
    · exact ⟨0, _, _, rfl, ht, ho, fun k hk => hk.imp id fun h => h.1, .inr ⟨rfl, rfl⟩⟩
end Go.Proofs.Ytcljendidhfobaa
