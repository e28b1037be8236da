/- A table of one transaction: Vote and End as the stamps' law wants them. -/
import Derived.Test.YtcljendidhfobaaCoVote
import Derived.Test.YtcljendidhfobaaCoEnd
namespace Go.Proofs.Ytcljendidhfobaa
set_option linter.unusedVariables false
open Go.RowKit

theorem topV_le : ∀ (l : List (Int × Int)) (s : Int), s ≤ l.foldl (fun a v => if a < v.2 then v.2 else a) s
  | [], s => Int.le_refl s
  | v :: r, s => by
    rw [List.foldl_cons]
    have := topV_le r (if s < v.2 then v.2 else s)
    split at this <;> rename_i h
    · rw [if_pos h]; omega
    · rw [if_neg h]; exact this
theorem topV_ge' : ∀ (l : List (Int × Int)) (s : Int), ∀ v ∈ l, v.2 ≤ l.foldl (fun a v => if a < v.2 then v.2 else a) s
  | v :: r, s, x, hx => by
    rw [List.foldl_cons]
    rcases List.mem_cons.1 hx with rfl | hx
    · have := topV_le r (if s < x.2 then x.2 else s)
      split at this <;> rename_i h
      · rw [if_pos h]; exact this
      · rw [if_neg h]; omega
    · exact topV_ge' r _ x hx
theorem topV_is' : ∀ (l : List (Int × Int)) (s : Int), l.foldl (fun a v => if a < v.2 then v.2 else a) s = s ∨ ∃ v ∈ l, v.2 = l.foldl (fun a v => if a < v.2 then v.2 else a) s
  | [], s => .inl rfl
  | v :: r, s => by
    rw [List.foldl_cons]
    rcases topV_is' r (if s < v.2 then v.2 else s) with h | ⟨x, hx, h⟩
    · rw [h]
      by_cases c : s < v.2
      · rw [if_pos c]; exact .inr ⟨v, List.mem_cons_self .., rfl⟩
      · rw [if_neg c]; exact .inl rfl
    · exact .inr ⟨x, List.mem_cons_of_mem _ hx, h⟩
theorem topV_uniq {l : List (Int × Int)} {t : Int} (h0 : ∀ v ∈ l, 0 ≤ v.2) (h1 : ∀ v ∈ l, v.2 ≤ t) (h2 : t = 0 ∨ ∃ v ∈ l, v.2 = t) : t = topV l := by
  have a1 : t ≤ topV l := by
    rcases h2 with rfl | ⟨v, hv, rfl⟩
    · exact topV_le l 0
    · exact topV_ge' l 0 v hv
  have a2 : topV l ≤ t := by
    rcases topV_is' l 0 with h | ⟨v, hv, h⟩
    · show l.foldl _ 0 ≤ t
      rw [h]
      rcases h2 with rfl | ⟨v, hv, rfl⟩
      · omega
      · exact h0 v hv
    · show l.foldl _ 0 ≤ t
      rw [← h]
      exact h1 v hv
  omega
theorem topV_gt {l : List (Int × Int)} {low : Int} (h : ∀ v ∈ l, low < v.2) (hn : l ≠ []) : low < topV l := by
  cases l with
  | nil => exact absurd rfl hn
  | cons v r =>
    have := topV_ge' (v :: r) 0 v (List.mem_cons_self ..)
    have := h v (List.mem_cons_self ..)
    show low < List.foldl _ 0 _
    omega
theorem look_mem {l : List (Int × Int)} {a t : Int} (h : l.lookup a = some t) : (a, t) ∈ l := by
  induction l with
  | nil => simp at h
  | cons v r ih =>
    rw [List.lookup_cons] at h
    by_cases c : a = v.1
    · rw [show (a == v.1) = true from beq_iff_eq.2 c] at h
      injection h with h
      subst c h
      exact List.mem_cons_self ..
    · rw [show (a == v.1) = false from beq_eq_false_iff_ne.2 c] at h
      exact List.mem_cons_of_mem _ (ih h)
theorem look_of_mem : ∀ {l : List (Int × Int)} (hk : (l.map (·.1)).Nodup) {v : Int × Int}, v ∈ l → l.lookup v.1 = some v.2
  | x :: r, hk, v, h => by
    rw [List.map_cons, List.nodup_cons] at hk
    rw [List.lookup_cons]
    rcases List.mem_cons.1 h with rfl | h
    · simp
    · have : v.1 ≠ x.1 := fun e => hk.1 (e ▸ List.mem_map.2 ⟨v, h, rfl⟩)
      rw [show (v.1 == x.1) = false from beq_eq_false_iff_ne.2 this]
      exact look_of_mem hk.2 h
theorem look_none {l : List (Int × Int)} {a : Int} (h : l.lookup a = none) : a ∉ l.map (·.1) := by
  intro hm
  obtain ⟨v, hv, rfl⟩ := List.mem_map.1 hm
  induction l with
  | nil => cases hv
  | cons x r ih =>
    rw [List.lookup_cons] at h
    by_cases c : v.1 = x.1
    · rw [show (v.1 == x.1) = true from beq_iff_eq.2 c] at h
      cases h
    · rw [show (v.1 == x.1) = false from beq_eq_false_iff_ne.2 c] at h
      rcases List.mem_cons.1 hv with rfl | hv
      · exact c rfl
      · exact ih hv h (List.mem_map.2 ⟨v, hv, rfl⟩)
theorem nodup_len : ∀ (a b : List Int), a.Nodup → (∀ x ∈ a, x ∈ b) → a.length ≤ b.length
  | [], b, _, _ => Nat.zero_le _
  | x :: r, b, hn, hs => by
    rw [List.nodup_cons] at hn
    have hx := hs x (List.mem_cons_self ..)
    have := nodup_len r (b.erase x) hn.2 fun y hy => (List.mem_erase_of_ne (fun (e : y = x) => hn.1 (e ▸ hy))).2 (hs y (List.mem_cons_of_mem _ hy))
    rw [List.length_erase_of_mem hx] at this
    have : 0 < b.length := List.length_pos_of_mem hx
    rw [List.length_cons]
    omega
/-- what always holds of the one transaction -/
structure StOk (e : Et) (low : Int) (k n : Nat) : Prop where
  tx : e.tx = 9
  elow : e.low = low
  len : e.shs.length = n
  keys : (e.votes.map (·.1)).Nodup
  each : ∀ v ∈ e.votes, low < v.2 ∧ 0 ≤ v.2 ∧ -9223372036854775808 ≤ v.1 ∧ v.1 ≤ 9223372036854775807
  has : ∀ v ∈ e.votes, e.has v.1 = true
  vl : e.votes.length ≤ k
  el : e.ended.length ≤ k
theorem StOk.next {e : Et} {low : Int} {k n : Nat} (h : StOk e low k n) : StOk e low (k + 1) n := { h with vl := by have := h.vl; omega, el := by have := h.el; omega }
theorem StOk.vote {e : Et} {low : Int} {k n : Nat} (h : StOk e low k n) {node t : Int} (hv : votedE e node t = true) (t0 : 0 ≤ t) (n0 : -9223372036854775808 ≤ node) (n1 : node ≤ 9223372036854775807) : StOk (voteE e node t) low (k + 1) n := by
  obtain ⟨h1, h2, h3⟩ := votedE_yes hv
  refine ⟨h.tx, h.elow, h.len, ?_, fun v hm => ?_, fun v hm => ?_, by have := h.vl; simp [voteE]; omega, by have := h.el; show e.ended.length ≤ _; omega⟩
  · show ((e.votes ++ [(node, t)]).map (·.1)).Nodup
    rw [List.map_append, List.nodup_append]
    refine ⟨h.keys, by simp, fun a ha b hb => ?_⟩
    simp at hb
    subst hb
    exact fun e => look_none h2 (e ▸ ha)
  · rcases List.mem_append.1 (show v ∈ e.votes ++ [(node, t)] from hm) with hm | hm
    · exact h.each v hm
    · simp at hm
      subst hm
      have := h.elow
      exact ⟨by omega, t0, n0, n1⟩
  · rcases List.mem_append.1 (show v ∈ e.votes ++ [(node, t)] from hm) with hm | hm
    · exact h.has v hm
    · simp at hm
      subst hm
      exact h1
theorem StOk.room {e : Et} {low : Int} {k n : Nat} (h : StOk e low k n) {node t : Int} (hv : votedE e node t = true) : e.votes.length < n := by
  obtain ⟨h1, h2, _⟩ := votedE_yes hv
  have hl := nodup_len ((e.votes.map (·.1)) ++ [node]) (e.shs.map (·.1)) (by
    rw [List.nodup_append]
    refine ⟨h.keys, by simp, fun a ha b hb => ?_⟩
    simp at hb
    subst hb
    exact fun e => look_none h2 (e ▸ ha)) (fun x hx => by
    have hh : e.has x = true := by
      rcases List.mem_append.1 hx with hx | hx
      · obtain ⟨v, hv, rfl⟩ := List.mem_map.1 hx
        exact h.has v hv
      · simp at hx
        subst hx
        exact h1
    unfold Et.has at hh
    obtain ⟨s, hs, he⟩ := List.any_eq_true.1 hh
    exact List.mem_map.2 ⟨s, hs, by simpa using he⟩)
  rw [List.length_append, List.length_map, List.length_map, h.len, List.length_singleton] at hl
  omega
theorem StOk.undec {e : Et} {low : Int} {k n : Nat} (h : StOk e low k n) {node t : Int} (hv : votedE e node t = true) : e.dec = false := by
  have := h.room hv
  have := h.len
  unfold Et.dec
  exact beq_eq_false_iff_ne.2 (by omega)
theorem StOk.end_ {e : Et} {low : Int} {k n : Nat} (h : StOk e low k n) (node : Int) : StOk (endE e node) low (k + 1) n :=
  ⟨h.tx, h.elow, h.len, h.keys, h.each, h.has, by have := h.vl; show e.votes.length ≤ _; omega, by have := h.el; simp [endE]; omega⟩
theorem getT_one {e : Et} (h : e.tx = 9) : getT [e] 9 = some e := by simp [getT, h]
theorem putT_vote {e : Et} (node t : Int) : putT [e] (voteE e node t) = [voteE e node t] := by simp [putT, voteE]
section
variable {S : Nat → Prop} {p : Nat} {e : Et} {w : World} {node t : Int}
theorem one_vote_no (h : TabAt w S p [e]) (htx : e.tx = 9) (hc : e.shs.length ≤ 4096) (n0 : -9223372036854775808 ≤ node) (n1 : node ≤ 9223372036854775807) (hv : votedE e node t = false) :
    Calls Try.prog 16 #[.pointer (some ⟨p, 0, none⟩), .int .u64 9, .int .i64 node, .int .u64 t] w fun r w' => ∃ er : Int, er ≠ 0 ∧ r = .returned (.tuple #[.int .u64 0, .bool false, .int .i64 er]) ∧ Below w.heap.size w w' := by
  refine Calls.mono (vote_no S p [e] 9 node t e w h (by omega) (by omega) (getT_one htx) hc n0 n1 hv) ?_
  rintro r w' ⟨rfl, hb⟩
  unfold voteR
  by_cases h1 : e.has node = false
  · exact ⟨18, by omega, by rw [if_pos h1], hb⟩
  · by_cases h2 : (e.votes.lookup node).isSome
    · exact ⟨8, by omega, by rw [if_neg h1, if_pos h2], hb⟩
    · refine ⟨11, by omega, ?_, hb⟩
      have h3 : t ≤ e.low := by
        have h1' : e.has node = true := by simpa using h1
        have h2' : (e.votes.lookup node).isSome = false := by simpa only [Bool.not_eq_true] using h2
        rw [votedE, h1', h2'] at hv
        simpa using hv
      rw [if_neg h1, if_neg h2, if_pos h3]
theorem one_vote_yes {D : Bool} {tp : Int} (h : TabAt w S p [e]) (htx : e.tx = 9) (hc : e.shs.length ≤ 4096) (hcv : e.votes.length ≤ 4096) (n0 : -9223372036854775808 ≤ node) (n1 : node ≤ 9223372036854775807) (hv : votedE e node t = true) (hD : (voteE e node t).dec = D) (htp : D = true → topV (voteE e node t).votes = tp) (htp0 : D = false → tp = 0) :
    Calls Try.prog 16 #[.pointer (some ⟨p, 0, none⟩), .int .u64 9, .int .i64 node, .int .u64 t] w fun r w' => r = .returned (.tuple #[.int .u64 tp, .bool D, .int .i64 0]) ∧ TabAt w' S p [voteE e node t] ∧ Only S w w' := by
  refine Calls.mono (vote_yes S p [e] 9 node t e w h (by omega) (by omega) (getT_one htx) hc hcv n0 n1 hv) ?_
  rintro r w' ⟨rfl, ht, ho⟩
  rw [putT_vote] at ht
  refine ⟨?_, ht, ho⟩
  obtain ⟨h1, h2, h3⟩ := votedE_yes hv
  unfold voteR
  rw [if_neg (by simp [h1]), if_neg (by rw [h2]; decide), if_neg h3, hD]
  cases D with
  | true => rw [if_pos rfl, htp rfl]
  | false => rw [if_neg (by decide), htp0 rfl]
theorem one_end_no (h : TabAt w S p [e]) (htx : e.tx = 9) (hc : e.shs.length ≤ 4096) (n0 : -9223372036854775808 ≤ node) (n1 : node ≤ 9223372036854775807) (hv : endedE e node = false) :
    Calls Try.prog 17 #[.pointer (some ⟨p, 0, none⟩), .int .u64 9, .int .i64 node] w fun r w' => ∃ er : Int, er ≠ 0 ∧ r = .returned (.tuple #[.bool false, .int .i64 er]) ∧ Below w.heap.size w w' := by
  refine Calls.mono (end_no S p [e] 9 node e w h (by omega) (by omega) (getT_one htx) hc n0 n1 hv) ?_
  rintro r w' ⟨rfl, hb⟩
  unfold endR
  by_cases h1 : e.has node = false
  · exact ⟨18, by omega, by rw [if_pos h1], hb⟩
  · by_cases h2 : e.dec = false
    · exact ⟨19, by omega, by rw [if_neg h1, if_pos h2], hb⟩
    · refine ⟨8, by omega, ?_, hb⟩
      have h3 : e.ended.contains node = true := by
        have h1' : e.has node = true := by simpa using h1
        have h2' : e.dec = true := by simpa using h2
        rw [endedE, h1', h2'] at hv
        simpa only [Bool.true_and, Bool.not_eq_false'] using hv
      rw [if_neg h1, if_neg h2, if_pos h3]
def oneT (L : Bool) (e : Et) : List Et := if L then [] else [e]
theorem one_end_yes (h : TabAt w S p [e]) (htx : e.tx = 9) (hc : e.shs.length ≤ 4096) (hce : e.ended.length ≤ 4096) (n0 : -9223372036854775808 ≤ node) (n1 : node ≤ 9223372036854775807) (hv : endedE e node = true) :
    Calls Try.prog 17 #[.pointer (some ⟨p, 0, none⟩), .int .u64 9, .int .i64 node] w fun r w' => r = .returned (.tuple #[.bool (lastE e), .int .i64 0]) ∧ TabAt w' S p (oneT (lastE e) (endE e node)) ∧ Only S w w' := by
  refine Calls.mono (end_yes S p [e] 9 node e w h (by omega) (by omega) (getT_one htx) hc hce n0 n1 hv) ?_
  rintro r w' ⟨rfl, ht, ho⟩
  obtain ⟨h1, h2, h3⟩ := endedE_yes hv
  refine ⟨?_, ?_, ho⟩
  · unfold endR
    rw [if_neg (by simp [h1]), if_neg (by simp [h2]), if_neg (by rw [h3]; decide)]
  · cases hL : lastE e with
    | true =>
      rw [endT_last hL] at ht
      have e1 : dropT [e] e.tx = oneT true (endE e node) := by simp [dropT, oneT]
      rw [e1] at ht
      exact ht
    | false =>
      rw [endT_more hL] at ht
      have e1 : putT [e] (endE e node) = oneT false (endE e node) := by simp [putT, oneT, endE]
      rw [e1] at ht
      exact ht
theorem gone_vote (h : TabAt w S p []) : Calls Try.prog 16 #[.pointer (some ⟨p, 0, none⟩), .int .u64 9, .int .i64 node, .int .u64 t] w fun r w' => r = .returned (.tuple #[.int .u64 0, .bool false, .int .i64 7]) ∧ w = w' := vote_none S p [] 9 node t w h (by omega) (by omega) rfl
theorem gone_end (h : TabAt w S p []) : Calls Try.prog 17 #[.pointer (some ⟨p, 0, none⟩), .int .u64 9, .int .i64 node] w fun r w' => r = .returned (.tuple #[.bool false, .int .i64 7]) ∧ w = w' := end_none S p [] 9 node w h (by omega) (by omega) rfl
end
end Go.Proofs.Ytcljendidhfobaa
