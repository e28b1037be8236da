/- What each call of CoordPlays does to the program's table and to the document's, in one contract each. -/
import Derived.Test.YtcljendidhfobaaCoBoth
import Derived.Test.YtcljendidhfobaaCoTouchC
import Derived.Test.YtcljendidhfobaaCoOne
namespace Go.Proofs.Ytcljendidhfobaa
set_option linter.unusedVariables false
open Go.RowKit

/-- both tables, in memory apart -/
structure Two (w u : World) (p q : Nat) (S S' : Nat → Prop) (oA : Option Addr) (oc : Nat) (T : List Et) (D : List Dt) : Prop where
  tab : TabAt u S p T
  doc : DocAt u S' q oA oc D
  apart : ∀ k, S k → ¬ S' k
  sg : ∀ k, S k → w.heap.size ≤ k
  dg : ∀ k, S' k → w.heap.size ≤ k
  below : Below w.heap.size w u
section
variable {w u u' : World} {p q oc oc2 : Nat} {S S' S2 : Nat → Prop} {oA oA2 : Option Addr} {T T2 : List Et} {D D2 : List Dt}
theorem Two.size (h : Two w u p q S S' oA oc T D) : w.heap.size ≤ u.heap.size := h.below.size
theorem Two.new (h : Two w u p q S S' oA oc T D) (hb : Below u.heap.size u u') : Two w u' p q S S' oA oc T D := ⟨h.tab.new hb, h.doc.new hb, h.apart, h.sg, h.dg, h.below.trans (hb.mono h.size)⟩
theorem Two.tabs (h : Two w u p q S S' oA oc T D) (ht : TabAt u' S2 p T2) (ho : Only S u u') (hs : ∀ k, S2 k → S k ∨ u.heap.size ≤ k) : Two w u' p q S2 S' oA oc T2 D :=
  ⟨ht, h.doc.only ho fun k h1 h2 => h.apart k h2 h1, fun k h1 h2 => (hs k h1).elim (fun h3 => h.apart k h3 h2) (fun h3 => Nat.lt_irrefl _ (Nat.lt_of_lt_of_le (h.doc.lt k h2) h3)), fun k hk => (hs k hk).elim (h.sg k) (fun h3 => Nat.le_trans h.size h3), h.dg, h.below.trans (ho.below h.size h.sg)⟩
theorem Two.docs (h : Two w u p q S S' oA oc T D) (hd : DocAt u' S2 q oA2 oc2 D2) (ho : Only S' u u') (hs : ∀ k, S2 k → S' k ∨ u.heap.size ≤ k) : Two w u' p q S S2 oA2 oc2 T D2 :=
  ⟨h.tab.only ho fun k h1 h2 => h.apart k h1 h2, hd, fun k h1 h2 => (hs k h2).elim (fun h3 => h.apart k h1 h3) (fun h3 => Nat.lt_irrefl _ (Nat.lt_of_lt_of_le (h.tab.lt k h1) h3)), h.sg, fun k hk => (hs k hk).elim (h.dg k) (fun h3 => Nat.le_trans h.size h3), h.below.trans (ho.below h.size h.dg)⟩
end
/-- Start -/
def Starts (T : List Et) (tx low : Int) (L : List Sh) (er : Int) (T' : List Et) : Prop :=
  (L = [] ∧ er = 1 ∧ T' = T) ∨ (L ≠ [] ∧ (∃ e, getT T tx = some e) ∧ er = 8 ∧ T' = T) ∨ (L ≠ [] ∧ getT T tx = none ∧ ¬ Apart L ∧ er = 3 ∧ T' = T) ∨ (L ≠ [] ∧ getT T tx = none ∧ Apart L ∧ er = 0 ∧ T' = T ++ [⟨tx, low, L, [], []⟩])
theorem starts_or (T : List Et) (tx low : Int) (L : List Sh) : ∃ er T', Starts T tx low L er T' := by
  by_cases h1 : L = []
  · exact ⟨_, _, .inl ⟨h1, rfl, rfl⟩⟩
  · cases h2 : getT T tx with
    | some e => exact ⟨_, _, .inr (.inl ⟨h1, ⟨e, h2⟩, rfl, rfl⟩)⟩
    | none =>
      by_cases h3 : Apart L
      · exact ⟨_, _, .inr (.inr (.inr ⟨h1, h2, h3, rfl, rfl⟩))⟩
      · exact ⟨_, _, .inr (.inr (.inl ⟨h1, h2, h3, rfl, rfl⟩))⟩
theorem start_all (S F : Nat → Prop) (p : Nat) (T T' : List Et) (tx low er : Int) (A : Option Addr) (c : Nat) (l : List Sq) (w : World) (h : TabAt w S p T) (h0 : 0 ≤ tx) (h1 : tx ≤ 18446744073709551615) (hT : T.length ≤ 4096) (hl2 : l.length ≤ 4096) (hc : l.length ≤ c) (hs : ShsAt w F A l) (hv : ∀ s ∈ l, s.vs.length ≤ 4096) (hst : Starts T tx low (l.map Sq.sh) er T') :
    Calls Try.prog 10 #[.pointer (some ⟨p, 0, none⟩), .int .u64 tx, .int .u64 low, .slice A l.length c] w fun e w' => e = .returned (.int .i64 er) ∧ ∃ S2, TabAt w' S2 p T' ∧ Only S w w' ∧ ∀ k, S2 k → S k ∨ w.heap.size ≤ k := by
  rcases hst with ⟨hL, rfl, rfl⟩ | ⟨hL, ⟨e, hg⟩, rfl, rfl⟩ | ⟨hL, hg, hap, rfl, rfl⟩ | ⟨hL, hg, hap, rfl, rfl⟩
  · obtain rfl : l = [] := by simpa using hL
    refine Calls.mono (start_empty p tx low A c w) ?_
    rintro _ _ ⟨rfl, rfl⟩
    exact ⟨rfl, S, h, Only.refl _ _, fun k hk => .inl hk⟩
  · refine Calls.mono (start_there S p T' tx low A l.length c w h h0 h1 (by rw [hg]; rfl) (fun e => hL (by simp [List.eq_nil_of_length_eq_zero e]))) ?_
    rintro _ _ ⟨rfl, rfl⟩
    exact ⟨rfl, S, h, Only.refl _ _, fun k hk => .inl hk⟩
  · refine Calls.mono (start_any S F p T' tx low A c l w h h0 h1 hg hT (fun e => hL (by simp [e])) hl2 hc hs hv) ?_
    rintro _ w' (⟨_, rfl, hb⟩ | ⟨hx, _⟩)
    · exact ⟨rfl, S, h.new hb, Only.of_new hb, fun k hk => .inl hk⟩
    · exact absurd hx hap
  · refine Calls.mono (start_any S F p T tx low A c l w h h0 h1 hg hT (fun e => hL (by simp [e])) hl2 hc hs hv) ?_
    rintro _ w' (⟨hx, _⟩ | ⟨_, rfl, ht, ho⟩)
    · exact absurd hap hx
    · exact ⟨rfl, _, ht, ho, fun k hk => hk.imp id fun h => h.1⟩
/-- what the document's table is behind an operation -/
def DocTo (S : Nat → Prop) (q k : Nat) (T' : List Et) (w w' : World) : Prop :=
  ∃ (oA : Option Addr) (oc : Nat) (S2 : Nat → Prop) (D' : List Dt), DocAt w' S2 q oA oc D' ∧ Both T' D' k ∧ Only S w w' ∧ ∀ k, S2 k → S k ∨ w.heap.size ≤ k
theorem dstart_all (S F : Nat → Prop) (q k : Nat) (oA : Option Addr) (oc : Nat) (T T' : List Et) (D : List Dt) (tx low er : Int) (A : Option Addr) (c : Nat) (l : List Sq) (w : World) (h : DocAt w S q oA oc D) (hb : Both T D k) (hk : k ≤ 4000) (h0 : 0 ≤ tx) (h1 : tx ≤ 18446744073709551615) (hl2 : l.length ≤ 6) (hfl : (flatS (l.map Sq.sh)).length ≤ 48) (hs : ShsAt w F A l) (hv : ∀ s ∈ l, s.vs.length ≤ 4096) (hst : Starts T tx low (l.map Sq.sh) er T') :
    Calls Try.prog 22 #[.pointer (some ⟨q, 0, none⟩), .int .u64 tx, .int .u64 low, .slice A l.length c] w fun e w' => e = .returned (.int .i64 er) ∧ DocTo S q (k + 1) T' w w' := by
  have hDl : D.length ≤ 4000 := by have := hb.len; have := hb.tl; omega
  rcases hst with ⟨hL, rfl, rfl⟩ | ⟨hL, ⟨e, hg⟩, rfl, rfl⟩ | ⟨hL, hg, hap, rfl, rfl⟩ | ⟨hL, hg, hap, rfl, rfl⟩
  · obtain rfl : l = [] := by simpa using hL
    refine Calls.mono (dstart_empty q tx low A c w) ?_
    rintro _ _ ⟨rfl, rfl⟩
    exact ⟨rfl, _, _, S, _, h, hb.next, Only.refl _ _, fun k hk => .inl hk⟩
  · obtain ⟨i, d, _, _, ha, _⟩ := hb.some hg
    refine Calls.mono (dstart_there S q oA oc D tx low i d A l.length c w h ha (by omega) (fun e => hL (by simp [List.eq_nil_of_length_eq_zero e]))) ?_
    rintro _ _ ⟨rfl, rfl⟩
    exact ⟨rfl, _, _, S, _, h, hb.next, Only.refl _ _, fun k hk => .inl hk⟩
  · refine Calls.mono (dstart_any S F q oA oc D tx low A c l w h (hb.none hg) hDl (fun e => hL (by simp [e])) (by omega) hs hv) ?_
    rintro _ w' (⟨_, rfl, hbw⟩ | ⟨hx, _⟩)
    · exact ⟨rfl, _, _, S, _, h.new hbw, hb.next, Only.of_new hbw, fun k hk => .inl hk⟩
    · exact absurd hx hap
  · refine Calls.mono (dstart_any S F q oA oc D tx low A c l w h (hb.none hg) hDl (fun e => hL (by simp [e])) (by omega) hs hv) ?_
    rintro _ w' (⟨hx, _⟩ | ⟨_, rfl, oA2, oc2, S2, d, hd, e1, e2, e3, e4, ho, hS2⟩)
    · exact absurd hap hx
    · exact ⟨rfl, oA2, oc2, S2, _, hd, hb.push hg (Rel.fresh e1 e2 e3 e4) ⟨h0, h1, by simpa using hl2, hfl, by simp, by simp⟩, ho, hS2⟩
/-- Vote -/
def Votes (T : List Et) (tx node t a : Int) (b : Bool) (c : Int) (T' : List Et) : Prop :=
  (getT T tx = none ∧ (a = 0 ∧ b = false ∧ c = 7) ∧ T' = T) ∨ ∃ e, getT T tx = some e ∧ voteR e node t = .tuple #[.int .u64 a, .bool b, .int .i64 c] ∧ ((votedE e node t = false ∧ T' = T) ∨ (votedE e node t = true ∧ T' = putT T (voteE e node t)))
theorem voteR_tuple (e : Et) (node t : Int) : ∃ a b c, voteR e node t = .tuple #[.int .u64 a, .bool b, .int .i64 c] := by
  unfold voteR
  split
  · exact ⟨_, _, _, rfl⟩
  · split
    · exact ⟨_, _, _, rfl⟩
    · split
      · exact ⟨_, _, _, rfl⟩
      · split <;> exact ⟨_, _, _, rfl⟩
theorem votes_or (T : List Et) (tx node t : Int) : ∃ a b c T', Votes T tx node t a b c T' := by
  cases hg : getT T tx with
  | none => exact ⟨_, _, _, _, .inl ⟨hg, ⟨rfl, rfl, rfl⟩, rfl⟩⟩
  | some e =>
    obtain ⟨a, b, c, hr⟩ := voteR_tuple e node t
    cases hv : votedE e node t with
    | false => exact ⟨a, b, c, _, .inr ⟨e, hg, hr, .inl ⟨hv, rfl⟩⟩⟩
    | true => exact ⟨a, b, c, _, .inr ⟨e, hg, hr, .inr ⟨hv, rfl⟩⟩⟩
theorem vote_all (S : Nat → Prop) (p k : Nat) (T T' : List Et) (tx node t a : Int) (b : Bool) (c : Int) (w : World) (h : TabAt w S p T) (he : ∀ e ∈ T, EtOk k e) (hk : k ≤ 3000) (h0 : 0 ≤ tx) (h1 : tx ≤ 18446744073709551615) (n0 : -9223372036854775808 ≤ node) (n1 : node ≤ 9223372036854775807) (hv : Votes T tx node t a b c T') :
    Calls Try.prog 16 #[.pointer (some ⟨p, 0, none⟩), .int .u64 tx, .int .i64 node, .int .u64 t] w fun e w' => e = .returned (.tuple #[.int .u64 a, .bool b, .int .i64 c]) ∧ ∃ S2, TabAt w' S2 p T' ∧ Only S w w' ∧ ∀ k, S2 k → S k ∨ w.heap.size ≤ k := by
  rcases hv with ⟨hg, ⟨rfl, rfl, rfl⟩, rfl⟩ | ⟨e, hg, hr, ⟨hv, rfl⟩ | ⟨hv, rfl⟩⟩
  · refine Calls.mono (vote_none S p T' tx node t w h h0 h1 hg) ?_
    rintro _ _ ⟨rfl, rfl⟩
    exact ⟨rfl, S, h, Only.refl _ _, fun k hk => .inl hk⟩
  · have hx := he e (getT_mem hg)
    refine Calls.mono (vote_no S p T' tx node t e w h h0 h1 hg (by have := hx.shs; omega) n0 n1 hv) ?_
    rintro _ _ ⟨rfl, hb⟩
    exact ⟨by rw [hr], S, h.new hb, Only.of_new hb, fun k hk => .inl hk⟩
  · have hx := he e (getT_mem hg)
    refine Calls.mono (vote_yes S p T tx node t e w h h0 h1 hg (by have := hx.shs; omega) (by have := hx.vl; omega) n0 n1 hv) ?_
    rintro _ _ ⟨rfl, ht, ho⟩
    exact ⟨by rw [hr], S, ht, ho, fun k hk => .inl hk⟩
theorem dvote_all (S : Nat → Prop) (q k : Nat) (oA : Option Addr) (oc : Nat) (T T' : List Et) (D : List Dt) (tx node t a : Int) (b : Bool) (c : Int) (w : World) (h : DocAt w S q oA oc D) (hb : Both T D k) (hk : k ≤ 3000) (hv : Votes T tx node t a b c T') :
    Calls Try.prog 24 #[.pointer (some ⟨q, 0, none⟩), .int .u64 tx, .int .i64 node, .int .u64 t] w fun e w' => e = .returned (.tuple #[.int .u64 a, .bool b, .int .i64 c]) ∧ DocTo S q (k + 1) T' w w' := by
  have hDl : D.length ≤ 4000 := by have := hb.len; have := hb.tl; omega
  rcases hv with ⟨hg, ⟨rfl, rfl, rfl⟩, rfl⟩ | ⟨e, hg, hr, ⟨hv, rfl⟩ | ⟨hv, rfl⟩⟩
  · refine Calls.mono (dvote_none S q oA oc D tx node t w h (hb.none hg) (by omega)) ?_
    rintro _ _ ⟨rfl, rfl⟩
    exact ⟨rfl, _, _, S, _, h, hb.next, Only.refl _ _, fun k hk => .inl hk⟩
  · have hx := hb.each e (getT_mem hg)
    obtain ⟨i, d, hi, _, ha, hrl⟩ := hb.some hg
    refine Calls.mono (dvote_no S q oA oc D tx node t i d e w h ha (by omega) (by have := hx.shs; have := hrl.slen; omega) (by have := hx.vl; have := hrl.vlen; omega) hrl hv) ?_
    rintro _ _ ⟨rfl, rfl⟩
    exact ⟨by rw [hr], _, _, S, _, h, hb.next, Only.refl _ _, fun k hk => .inl hk⟩
  · have hx := hb.each e (getT_mem hg)
    obtain ⟨i, d, hi, _, ha, hrl⟩ := hb.some hg
    refine Calls.mono (dvote_yes S q oA oc D tx node t i d e w h ha (by omega) (by have := hx.shs; have := hrl.slen; omega) (by have := hx.vl; have := hrl.vlen; omega) hrl hv) ?_
    rintro _ _ ⟨rfl, A2, c2, S2, hd, ho, hS2⟩
    exact ⟨by rw [hr], _, _, S2, _, hd, hb.vote hi hrl hv A2 c2, ho, hS2⟩
/-- End -/
def Ends (T : List Et) (tx node : Int) (b : Bool) (c : Int) (T' : List Et) : Prop :=
  (getT T tx = none ∧ (b = false ∧ c = 7) ∧ T' = T) ∨ ∃ e, getT T tx = some e ∧ endR e node = .tuple #[.bool b, .int .i64 c] ∧ ((endedE e node = false ∧ T' = T) ∨ (endedE e node = true ∧ T' = endT T e node))
theorem endR_tuple (e : Et) (node : Int) : ∃ b c, endR e node = .tuple #[.bool b, .int .i64 c] := by
  unfold endR
  split
  · exact ⟨_, _, rfl⟩
  · split
    · exact ⟨_, _, rfl⟩
    · split <;> exact ⟨_, _, rfl⟩
theorem ends_or (T : List Et) (tx node : Int) : ∃ b c T', Ends T tx node b c T' := by
  cases hg : getT T tx with
  | none => exact ⟨_, _, _, .inl ⟨hg, ⟨rfl, rfl⟩, rfl⟩⟩
  | some e =>
    obtain ⟨b, c, hr⟩ := endR_tuple e node
    cases hv : endedE e node with
    | false => exact ⟨b, c, _, .inr ⟨e, hg, hr, .inl ⟨hv, rfl⟩⟩⟩
    | true => exact ⟨b, c, _, .inr ⟨e, hg, hr, .inr ⟨hv, rfl⟩⟩⟩
theorem end_all (S : Nat → Prop) (p k : Nat) (T T' : List Et) (tx node : Int) (b : Bool) (c : Int) (w : World) (h : TabAt w S p T) (he : ∀ e ∈ T, EtOk k e) (hk : k ≤ 3000) (h0 : 0 ≤ tx) (h1 : tx ≤ 18446744073709551615) (n0 : -9223372036854775808 ≤ node) (n1 : node ≤ 9223372036854775807) (hv : Ends T tx node b c T') :
    Calls Try.prog 17 #[.pointer (some ⟨p, 0, none⟩), .int .u64 tx, .int .i64 node] w fun e w' => e = .returned (.tuple #[.bool b, .int .i64 c]) ∧ ∃ S2, TabAt w' S2 p T' ∧ Only S w w' ∧ ∀ k, S2 k → S k ∨ w.heap.size ≤ k := by
  rcases hv with ⟨hg, ⟨rfl, rfl⟩, rfl⟩ | ⟨e, hg, hr, ⟨hv, rfl⟩ | ⟨hv, rfl⟩⟩
  · refine Calls.mono (end_none S p T' tx node w h h0 h1 hg) ?_
    rintro _ _ ⟨rfl, rfl⟩
    exact ⟨rfl, S, h, Only.refl _ _, fun k hk => .inl hk⟩
  · have hx := he e (getT_mem hg)
    refine Calls.mono (end_no S p T' tx node e w h h0 h1 hg (by have := hx.shs; omega) n0 n1 hv) ?_
    rintro _ _ ⟨rfl, hb⟩
    exact ⟨by rw [hr], S, h.new hb, Only.of_new hb, fun k hk => .inl hk⟩
  · have hx := he e (getT_mem hg)
    refine Calls.mono (end_yes S p T tx node e w h h0 h1 hg (by have := hx.shs; omega) (by have := hx.el; omega) n0 n1 hv) ?_
    rintro _ _ ⟨rfl, ht, ho⟩
    exact ⟨by rw [hr], S, ht, ho, fun k hk => .inl hk⟩
theorem dend_all (S : Nat → Prop) (q k : Nat) (oA : Option Addr) (oc : Nat) (T T' : List Et) (D : List Dt) (tx node : Int) (b : Bool) (c : Int) (w : World) (h : DocAt w S q oA oc D) (hb : Both T D k) (hk : k ≤ 3000) (hv : Ends T tx node b c T') :
    Calls Try.prog 25 #[.pointer (some ⟨q, 0, none⟩), .int .u64 tx, .int .i64 node] w fun e w' => e = .returned (.tuple #[.bool b, .int .i64 c]) ∧ DocTo S q (k + 1) T' w w' := by
  have hDl : D.length ≤ 4000 := by have := hb.len; have := hb.tl; omega
  rcases hv with ⟨hg, ⟨rfl, rfl⟩, rfl⟩ | ⟨e, hg, hr, ⟨hv, rfl⟩ | ⟨hv, rfl⟩⟩
  · refine Calls.mono (dend_none S q oA oc D tx node w h (hb.none hg) (by omega)) ?_
    rintro _ _ ⟨rfl, rfl⟩
    exact ⟨rfl, _, _, S, _, h, hb.next, Only.refl _ _, fun k hk => .inl hk⟩
  · have hx := hb.each e (getT_mem hg)
    obtain ⟨i, d, hi, _, ha, hrl⟩ := hb.some hg
    refine Calls.mono (dend_no S q oA oc D tx node i d e w h ha (by omega) (by have := hx.shs; have := hrl.slen; omega) (by have := hx.vl; have := hrl.vlen; omega) hrl hv) ?_
    rintro _ _ ⟨rfl, hbw⟩
    exact ⟨by rw [hr], _, _, S, _, h.new hbw, hb.next, Only.of_new hbw, fun k hk => .inl hk⟩
  · have hx := hb.each e (getT_mem hg)
    obtain ⟨i, d, hi, _, ha, hrl⟩ := hb.some hg
    refine Calls.mono (dend_yes S q oA oc D tx node i d e w h ha (by omega) (by have := hx.shs; have := hrl.slen; omega) (by have := hx.vl; have := hrl.vlen; omega) hrl hv) ?_
    rintro _ _ ⟨rfl, m, v, oA2, oc2, S2, hm, hd, ho, hS2⟩
    exact ⟨by rw [hr], _, _, S2, _, hd, hb.end_ hi hrl hv hm, ho, hS2⟩
end Go.Proofs.Ytcljendidhfobaa
