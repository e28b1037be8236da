/- An entry of the program's and one of the document's; the document's Vote. -/
import Derived.Test.YtcljendidhfobaaCoDVote
namespace Go.Proofs.Ytcljendidhfobaa
set_option linter.unusedVariables false
open Go.RowKit

structure Rel (e : Et) (d : Dt) : Prop where
  tx : e.tx = d.tx
  low : e.low = d.low
  shs : e.shs = d.shs
  votes : e.votes = d.votes
  ended : ∀ v ∈ d.vts, v.2.2 = e.ended.contains v.1
  keys : (e.votes.map (·.1)).Nodup
  nod : e.ended.Nodup
  sub : ∀ x ∈ e.ended, x ∈ e.votes.map (·.1)
  hasv : ∀ v ∈ e.votes, e.has v.1 = true
theorem Rel.has {e : Et} {d : Dt} (h : Rel e d) (node : Int) : e.has node = hasQ d.l node := by
  unfold Et.has hasQ
  rw [h.shs]
  unfold Dt.shs
  rw [List.any_map]
  rfl
theorem Rel.vlen {e : Et} {d : Dt} (h : Rel e d) : e.votes.length = d.vts.length := by rw [h.votes]; simp [Dt.votes]
theorem Rel.slen {e : Et} {d : Dt} (h : Rel e d) : e.shs.length = d.l.length := by rw [h.shs]; simp [Dt.shs]
theorem Rel.some {e : Et} {d : Dt} (h : Rel e d) {node : Int} {k : Nat} {v : Vt} (hv : atV d.vts node k v) : e.votes.lookup node = some v.2.1 := by
  rw [h.votes]
  have hm : (v.1, v.2.1) ∈ d.votes := List.mem_map.2 ⟨v, List.mem_of_getElem? hv.1, rfl⟩
  have hk := h.keys
  rw [h.votes] at hk
  have := look_of_mem hk hm
  simp only [hv.2.1] at this
  exact this
theorem Rel.none {e : Et} {d : Dt} (h : Rel e d) {node : Int} (hv : noV d.vts node) : e.votes.lookup node = none := by
  rcases hq : e.votes.lookup node with _ | t
  · rfl
  · have := look_mem hq
    rw [h.votes] at this
    obtain ⟨v, hm, hv2⟩ := List.mem_map.1 this
    injection hv2 with h1 _
    obtain ⟨j, hj⟩ := List.mem_iff_getElem?.1 hm
    exact absurd h1 (hv j v hj)
theorem Rel.vote {e : Et} {d : Dt} (h : Rel e d) {node t : Int} (hv : votedE e node t = true) (A : Option Addr) (c : Nat) : Rel (voteE e node t) { d with vts := d.vts ++ [(node, t, false)], vA := A, vc := c } := by
  obtain ⟨h1, h2, h3⟩ := votedE_yes hv
  have hnk := look_none h2
  refine ⟨h.tx, h.low, h.shs, ?_, fun v hm => ?_, ?_, h.nod, fun x hx => ?_, fun v hm => ?_⟩
  · show e.votes ++ [(node, t)] = (d.vts ++ [(node, t, false)]).map _
    rw [h.votes, List.map_append]
    rfl
  · rcases List.mem_append.1 (show v ∈ d.vts ++ [(node, t, false)] from hm) with hm | hm
    · exact h.ended v hm
    · simp at hm
      subst hm
      show false = e.ended.contains node
      rcases hq : e.ended.contains node with _ | _
      · rfl
      · exact absurd (h.sub node (by simpa using hq)) hnk
  · show ((e.votes ++ [(node, t)]).map (·.1)).Nodup
    rw [List.map_append, List.nodup_append]
    refine ⟨h.keys, by simp, fun a ha b hb => ?_⟩
    simp at hb
    subst hb
    exact fun e => hnk (e ▸ ha)
  · show x ∈ (e.votes ++ [(node, t)]).map (·.1)
    rw [List.map_append]
    exact List.mem_append_left _ (h.sub x hx)
  · rcases List.mem_append.1 (show v ∈ e.votes ++ [(node, t)] from hm) with hm | hm
    · exact h.hasv v hm
    · simp at hm
      subst hm
      exact h1
theorem vtinfo : (Try.prog.info? 86).map (fun i => (i.zero, i.size, i.bytes)) = some (some (.agg #[.int .i64 0, .int .u64 0, .bool false]), 3, 24) := by kernel_rfl
theorem dvote_none (S : Nat → Prop) (q : Nat) (oA : Option Addr) (oc : Nat) (D : List Dt) (tx node t : Int) (w : World) (h : DocAt w S q oA oc D) (hn : noD D tx) (hl : D.length ≤ 4096) :
    Calls Try.prog 24 #[.pointer (some ⟨q, 0, none⟩), .int .u64 tx, .int .i64 node, .int .u64 t] w fun e w' => e = .returned (.tuple #[.int .u64 0, .bool false, .int .i64 7]) ∧ w = w' := by
  have HF := hide (look_no S q oA oc D tx node w h hn hl)
  clear h hn
  go_enter Try.func24, Try.ntmps24
  go_wp2_with (go_at_call 34; refine (unhide HF).mono ?_; rintro _ w2 ⟨rfl, rfl⟩)
  go_ret3
  exact ⟨rfl, rfl⟩
theorem atV_or (l : List Vt) (node : Int) : (∃ k v, atV l node k v) ∨ noV l node := by
  induction l with
  | nil => exact .inr fun j x h => by simp at h
  | cons a r ih =>
    by_cases ha : a.1 = node
    · exact .inl ⟨0, a, rfl, ha, fun j x hj => by omega⟩
    · rcases ih with ⟨k, v, h1, h2, h3⟩ | h
      · refine .inl ⟨k + 1, v, by simpa using h1, h2, fun j x hj hx => ?_⟩
        cases j with
        | zero => simp at hx; subst hx; exact ha
        | succ j => exact h3 j x (by omega) (by simpa using hx)
      · refine .inr fun j x hx => ?_
        cases j with
        | zero => simp at hx; subst hx; exact ha
        | succ j => exact h j x (by simpa using hx)
theorem atV_uniq {l : List Vt} {node : Int} {k k' : Nat} {v v' : Vt} (h : atV l node k v) (h' : atV l node k' v') : k = k' := by
  rcases Nat.lt_trichotomy k k' with h1 | h1 | h1
  · exact absurd h.2.1 (h'.2.2 k v h1 h.1)
  · exact h1
  · exact absurd h'.2.1 (h.2.2 k' v' h1 h'.1)
section
variable {S : Nat → Prop} {q oc i : Nat} {oA : Option Addr} {D : List Dt} {tx node : Int} {d : Dt} {w : World}
theorem look_18 (h : DocAt w S q oA oc D) (hn : atD D tx i d) (hl : D.length ≤ 4096) (hc : d.l.length ≤ 4096) (hv : d.vts.length ≤ 4096) (hq : hasQ d.l node = false) :
    Calls Try.prog 34 #[.pointer (some ⟨q, 0, none⟩), .int .u64 tx, .int .i64 node] w fun e w' => e = .returned (.tuple #[.int .i64 0, .int .i64 0, .int .i64 18]) ∧ w = w' := by
  refine Calls.mono (look_any S q oA oc D tx node i d w h hn hl hc hv) ?_
  rintro e w' ⟨⟨r, rfl, hr⟩, rfl⟩
  rcases hr with ⟨_, rfl⟩ | ⟨h1, _⟩
  · exact ⟨rfl, rfl⟩
  · rw [hq] at h1; cases h1
theorem look_at {k : Nat} {v : Vt} (h : DocAt w S q oA oc D) (hn : atD D tx i d) (hl : D.length ≤ 4096) (hc : d.l.length ≤ 4096) (hv : d.vts.length ≤ 4096) (hq : hasQ d.l node = true) (hk : atV d.vts node k v) :
    Calls Try.prog 34 #[.pointer (some ⟨q, 0, none⟩), .int .u64 tx, .int .i64 node] w fun e w' => e = .returned (.tuple #[.int .i64 (i : Int), .int .i64 (k : Int), .int .i64 0]) ∧ w = w' := by
  refine Calls.mono (look_any S q oA oc D tx node i d w h hn hl hc hv) ?_
  rintro e w' ⟨⟨r, rfl, hr⟩, rfl⟩
  rcases hr with ⟨h1, _⟩ | ⟨_, ⟨k', v', hk', rfl⟩ | ⟨hno, _⟩⟩
  · rw [hq] at h1; cases h1
  · rw [atV_uniq hk hk']; exact ⟨rfl, rfl⟩
  · exact absurd hk.2.1 (hno k v hk.1)
theorem look_new (h : DocAt w S q oA oc D) (hn : atD D tx i d) (hl : D.length ≤ 4096) (hc : d.l.length ≤ 4096) (hv : d.vts.length ≤ 4096) (hq : hasQ d.l node = true) (hk : noV d.vts node) :
    Calls Try.prog 34 #[.pointer (some ⟨q, 0, none⟩), .int .u64 tx, .int .i64 node] w fun e w' => e = .returned (.tuple #[.int .i64 (i : Int), .int .i64 (-1), .int .i64 0]) ∧ w = w' := by
  refine Calls.mono (look_any S q oA oc D tx node i d w h hn hl hc hv) ?_
  rintro e w' ⟨⟨r, rfl, hr⟩, rfl⟩
  rcases hr with ⟨h1, _⟩ | ⟨_, ⟨k', v', hk', _⟩ | ⟨_, rfl⟩⟩
  · rw [hq] at h1; cases h1
  · exact absurd hk'.2.1 (hk k' v' hk'.1)
  · exact ⟨rfl, rfl⟩
end
set_option maxHeartbeats 4000000 in
set_option maxRecDepth 20000 in
theorem dvote_no (S : Nat → Prop) (q : Nat) (oA : Option Addr) (oc : Nat) (D : List Dt) (tx node t : Int) (i : Nat) (d : Dt) (e : Et) (w : World) (h : DocAt w S q oA oc D) (hn : atD D tx i d) (hl : D.length ≤ 4096) (hc : d.l.length ≤ 4096) (hvl : d.vts.length ≤ 4096) (hr : Rel e d) (hv : votedE e node t = false) :
    Calls Try.prog 24 #[.pointer (some ⟨q, 0, none⟩), .int .u64 tx, .int .i64 node, .int .u64 t] w fun r w' => r = .returned (voteR e node t) ∧ w = w' := by
  have hdi := hn.1
  have hil := (List.getElem?_eq_some_iff.1 hdi).1
  have fh := h.hdr
  have hql := h.blk.lt
  obtain ⟨g, hA, hgl, c0, c1, c2, c3⟩ := h.ent hdi
  subst hA
  by_cases hq : hasQ d.l node = true
  · rcases atV_or d.vts node with ⟨k, v, hkv⟩ | hnv
    · have HF := hide (look_at h hn hl hc hvl hq hkv)
      have hs := hr.some hkv
      have hR : voteR e node t = .tuple #[.int .u64 0, .bool false, .int .i64 8] := by unfold voteR; rw [if_neg (by rw [hr.has, hq]; decide), if_pos (by rw [hs]; rfl)]
      rw [hR]
      have hk0 : (0 : Int) ≤ (k : Int) := by omega
      clear h hn hdi hr hv hkv hs hR hq
      go_enter Try.func24, Try.ntmps24
      go_wp2_with (go_at_call 34; refine (unhide HF).mono ?_; rintro _ w2 ⟨rfl, rfl⟩)
      go_ret3
      exact ⟨rfl, rfl⟩
    · have HF := hide (look_new h hn hl hc hvl hq hnv)
      have hs := hr.none hnv
      have hlo : t ≤ e.low := by
        rw [votedE, hr.has, hq, hs] at hv
        simpa using hv
      have hR : voteR e node t = .tuple #[.int .u64 0, .bool false, .int .i64 11] := by unfold voteR; rw [if_neg (by rw [hr.has, hq]; decide), if_neg (by rw [hs]; decide), if_pos hlo]
      rw [hR]
      have g1 : decide (t ≤ d.low) = true := decide_eq_true (by rw [← hr.low]; exact hlo)
      clear h hn hdi hr hv hnv hs hR hq hlo
      go_enter Try.func24, Try.ntmps24
      go_wp2_with (go_at_call 34; refine (unhide HF).mono ?_; rintro _ w2 ⟨rfl, rfl⟩)
      go_ret3
      exact ⟨rfl, rfl⟩
  · have hq2 : hasQ d.l node = false := by simpa only [Bool.not_eq_true] using hq
    have HF := hide (look_18 h hn hl hc hvl hq2)
    have hR : voteR e node t = .tuple #[.int .u64 0, .bool false, .int .i64 18] := by unfold voteR; rw [if_pos (by rw [hr.has]; exact hq2)]
    rw [hR]
    clear h hn hdi hr hv hR hq hq2
    go_enter Try.func24, Try.ntmps24
    go_wp2_with (go_at_call 34; refine (unhide HF).mono ?_; rintro _ w2 ⟨rfl, rfl⟩)
    go_ret3
    exact ⟨rfl, rfl⟩
theorem DocAt.voted {w w7 : World} {S : Nat → Prop} {q oc i g c7 : Nat} {A7 : Option Addr} {D : List Dt} {d : Dt} {node t : Int} {cs : Array Value} {ty : TypeId} (h : DocAt w S q (some ⟨g, 0, none⟩) oc D) (hi : D[i]? = some d)
    (hown : w7.ownsRow 0 86 3 (.slice A7 (d.vts.length + 1) c7) (d.vts.length + 1) (vtrow d.vts ++ [.int .i64 node, .int .u64 t, .bool false])) (hg : (w.drew.alloc (.cells cs ty)).grownBy w7 (Value.slice d.vA d.vts.length d.vc).ownBlock)
    (hat : (Value.slice A7 (d.vts.length + 1) c7).ownBlock = (Value.slice d.vA d.vts.length d.vc).ownBlock ∨ (Value.slice A7 (d.vts.length + 1) c7).ownBlock = some (w.drew.alloc (.cells cs ty)).heap.size) :
    DocAt (w7.setCell ⟨g, i * 4 + 3, none⟩ (.slice A7 (d.vts.length + 1) c7)) (fun k => S k ∨ (w.heap.size ≤ k ∧ k < (w7.setCell ⟨g, i * 4 + 3, none⟩ (.slice A7 (d.vts.length + 1) c7)).heap.size)) q (some ⟨g, 0, none⟩) oc (D.set i { d with vts := d.vts ++ [(node, t, false)], vA := A7, vc := c7 }) ∧
      Only S w (w7.setCell ⟨g, i * 4 + 3, none⟩ (.slice A7 (d.vts.length + 1) c7)) := by
  have hdm : d ∈ D := List.mem_of_getElem? hi
  have hil := (List.getElem?_eq_some_iff.1 hi).1
  have o7 : Only (fun k => d.vv.ownBlock = some k) w w7 := ((Only.refl _ w).drew.alloc _).trans (Only.of_grown hg fun k hk => hk)
  have o8 : Only (fun k => d.vv.ownBlock = some k ∨ (Value.slice (some ⟨g, 0, none⟩) D.length oc).ownBlock = some k) w (w7.setCell ⟨g, i * 4 + 3, none⟩ (.slice A7 (d.vts.length + 1) c7)) :=
    Only.setCell (S := fun k => d.vv.ownBlock = some k ∨ (Value.slice (some ⟨g, 0, none⟩) D.length oc).ownBlock = some k) (p := ⟨g, i * 4 + 3, none⟩) (o7.mono fun k _ hk => .inl hk) (.inr rfl) _
  have hrow7 : w7.ownsRow 0 82 4 (.slice (some ⟨g, 0, none⟩) D.length oc) D.length (erow D) := own_only h.row o7 fun k hk hS => by
    obtain ⟨cur, hb⟩ := own_blk h.row hk
    obtain ⟨cur2, hb2⟩ := own_blk (h.vts d hdm) hS
    exact absurd (blk_type hb hb2) (by decide)
  have hrow8 := (hrow7.stored (i * 4 + 3) (.slice A7 (d.vts.length + 1) c7)).1
  have hse := erow_set D i d { d with vts := d.vts ++ [(node, t, false)], vA := A7, vc := c7 } hi rfl rfl rfl
  have hvv : Dt.vv { d with vts := d.vts ++ [(node, t, false)], vA := A7, vc := c7 } = .slice A7 (d.vts.length + 1) c7 := by unfold Dt.vv; simp
  rw [hvv] at hse
  rw [hse] at hrow8
  refine ⟨h.put hi rfl rfl rfl o8 hrow8 ?_ ?_, o8.mono fun k _ hk => ?_⟩
  · rw [hvv]
    show (w7.setCell _ _).ownsRow 0 _ 3 _ (d.vts ++ [(node, t, false)]).length (vtrow (d.vts ++ [(node, t, false)]))
    rw [vtrow_app, List.length_append]
    refine own_only hown (Only.setCell (S := fun k => k = g) (p := ⟨g, i * 4 + 3, none⟩) (Only.refl _ _) rfl _) fun k hk e => ?_
    subst e
    obtain ⟨cur, hb⟩ := own_blk hown hk
    obtain ⟨cur2, hb2⟩ := own_blk hrow7 (g := k) rfl
    exact absurd (blk_type hb hb2) (by decide)
  · rw [hvv]
    rcases hat with hat | hat
    · exact .inl hat
    · exact .inr fun k hk => by rw [hat] at hk; injection hk with hk; rw [← hk]; simp
  · rcases hk with hk | hk
    · exact h.fr hdm hk
    · exact h.foot _ (.inr (.inl hk))
set_option maxHeartbeats 8000000 in
set_option maxRecDepth 20000 in
theorem dvote_yes (S : Nat → Prop) (q : Nat) (oA : Option Addr) (oc : Nat) (D : List Dt) (tx node t : Int) (i : Nat) (d : Dt) (e : Et) (w : World) (h : DocAt w S q oA oc D) (hn : atD D tx i d) (hl : D.length ≤ 4096) (hc : d.l.length ≤ 4096) (hvl : d.vts.length ≤ 4000) (hr : Rel e d) (hv : votedE e node t = true) :
    Calls Try.prog 24 #[.pointer (some ⟨q, 0, none⟩), .int .u64 tx, .int .i64 node, .int .u64 t] w fun r w' => r = .returned (voteR e node t) ∧ ∃ (A' : Option Addr) (c' : Nat) (S' : Nat → Prop), DocAt w' S' q oA oc (D.set i { d with vts := d.vts ++ [(node, t, false)], vA := A', vc := c' }) ∧ Only S w w' ∧ ∀ k, S' k → S k ∨ w.heap.size ≤ k := by
  obtain ⟨i0, hi, hz0, hz1, hz2⟩ := info_parts vtinfo
  obtain ⟨hh, hlk, hlo⟩ := votedE_yes hv
  have hq : hasQ d.l node = true := by rw [← hr.has]; exact hh
  have hnv : noV d.vts node := by
    rcases atV_or d.vts node with ⟨k, v, hkv⟩ | hnv
    · rw [hr.some hkv] at hlk; cases hlk
    · exact hnv
  have HF := hide (look_new h hn hl hc (by omega) hq hnv)
  have hdi := hn.1
  have hdm : d ∈ D := List.mem_of_getElem? hdi
  have hil := (List.getElem?_eq_some_iff.1 hdi).1
  have fh := h.hdr
  have hql := h.blk.lt
  obtain ⟨g, hA, hgl, c0, c1, c2, c3⟩ := h.ent hdi
  subst hA
  have g1 : decide (t ≤ d.low) = false := decide_eq_false (by rw [← hr.low]; exact hlo)
  have HH := hide h; have HDI := hide hdi; have HDM := hide hdm
  obtain ⟨csg, hbg⟩ := own_blk h.row (g := g) rfl
  have fzg := hbg.frozen (i * 4 + 3)
  have HBG := hide hbg
  have HRN := fun (A : Option Addr) (c : Nat) => hr.vote hv A c
  have hRv : voteR e node t = if (voteE e node t).dec then .tuple #[.int .u64 (topV (voteE e node t).votes), .bool true, .int .i64 0] else .tuple #[.int .u64 0, .bool false, .int .i64 0] := by
    unfold voteR
    rw [if_neg (by rw [hh]; decide), if_neg (by rw [hlk]; decide), if_neg hlo]
  have HRR := hide HRN; have HRV := hide hRv
  clear h hn hdi hdm hr hv hh hlk hlo hq hnv hbg HRN hRv
  go_enter Try.func24, Try.ntmps24
  go_upto_region 8 with (go_at_call 34; refine (unhide HF).mono ?_; rintro _ w2 ⟨rfl, rfl⟩)
  have HV6 : Hid ((w.drew.alloc (.cells #[.int .i64 node, .int .u64 t, .bool false] 86)).ownsRow 0 86 3 (.slice d.vA d.vts.length d.vc) d.vts.length (vtrow d.vts)) := hide ((own_drewN ((unhide HH).vts d (unhide HDM)) 1).alloc _)
  go_region_law (first
    | (refine step_append_any _ rfl (.tmp 51) (.tmp 55) _ rfl 0 86 i0 _ 3 24 Try.underlying80 hi hz0 hz1 hz2 rfl (by omega) _ d.vts.length _ (by rfl) (unhide HV6) _ _ 1 1 _ (by rfl) (RdV.of_own (base := 0) (size := 3) (World.ownsRow_lit w.drew #[.int .i64 node, .int .u64 t, .bool false] 1 (Nat.zero_le _) (by simp [maxLen]) rfl)) rfl (by intro u hu; simp at hu; rcases hu with rfl | rfl | rfl <;> rfl) (by simp only [maxLen]; omega) (by omega) (by simp) ?_
       intro A7 c7 w7 hown7 hg7 hat7 hbel7 hcc7
       have hno : ∀ {g2 : Nat} {t2 : TypeId} {cs2 : Array Value}, Blk w g2 t2 cs2 → t2 ≠ 86 → some g2 ≠ (Value.slice d.vA d.vts.length d.vc).ownBlock := fun hb hne e => by
         obtain ⟨cur, hb2⟩ := own_blk ((unhide HH).vts d (unhide HDM)) e.symm
         exact hne (blk_type hb hb2)
       have hbq7 : Blk w7 q 64 _ := (Blk.alloc (w := w.drew) (unhide HH).blk (.cells #[.int .i64 node, .int .u64 t, .bool false] 86)).grown hg7 (fun e => hno (unhide HH).blk (by decide) e)
       have hbg7 : Blk w7 g 82 _ := (Blk.alloc (w := w.drew) (unhide HBG) (.cells #[.int .i64 node, .int .u64 t, .bool false] 86)).grown hg7 (fun e => hno (unhide HBG) (by decide) e)
       have fh7 : w7.cell? ⟨q, 0, none⟩ = some (.slice (some ⟨g, 0, none⟩) D.length oc) := hbq7.cell 0
       have fzg7 := hbg7.frozen (i * 4 + 3)
       have hgl7 := hbg7.lt; have hql7 := hbq7.lt
       have c37 : w7.cell? ⟨g, i * 4 + 3, none⟩ = some (.slice d.vA d.vts.length d.vc) := (hbg7.cell _).trans (((unhide HBG).cell (i * 4 + 3)).symm.trans c3)
       have HO7 := hide hown7; have HG7 := hide hg7; have HAT7 := hide hat7; have HBG7 := hide hbg7
       clear hown7 hg7 hat7 hbel7 hcc7 hno hbq7 hbg7))
  all_goals
    obtain ⟨h8, ho8⟩ := (unhide HH).voted (unhide HDI) (unhide HO7) (unhide HG7) (unhide HAT7)
    obtain ⟨w8, hw8⟩ : ∃ u, w7.setCell ⟨g, i * 4 + 3, none⟩ (.slice A7 (d.vts.length + 1) c7) = u := ⟨_, rfl⟩
    rw [hw8] at h8 ho8
    rw [hw8]
    have hd8 : (D.set i { d with vts := d.vts ++ [(node, t, false)], vA := A7, vc := c7 })[i]? = some { d with vts := d.vts ++ [(node, t, false)], vA := A7, vc := c7 } := List.getElem?_set_self hil
    have fh8 := h8.hdr
    rw [List.length_set] at fh8
    have hq8 := h8.blk.lt
    obtain ⟨g8, hA8, hgl8, e0, e1, e2, e3⟩ := h8.ent hd8
    injection hA8 with hA8
    injection hA8 with hA8 _
    subst hA8
    have hrel := unhide HRR A7 c7
    have hdc := decided_any _ q (some ⟨g, 0, none⟩) oc _ _ w8 h8 (List.mem_of_getElem? hd8) (by simp; omega)
    have hvn : (d.vts ++ [(node, t, false)]).length = d.vts.length + 1 := by simp
    simp only [hvn] at e0 e1 e2 e3 hdc
    have ht := hrel.votes
    have hD : (voteE e node t).dec = (((d.vts.length + 1 : Nat) : Int) == (d.l.length : Int)) := by
      unfold Et.dec
      rw [hrel.vlen, hrel.slen]
      show (((d.vts ++ [(node, t, false)]).length : Int) == (d.l.length : Int)) = _
      rw [hvn]
    obtain ⟨T, hT⟩ : ∃ T, topV (Dt.votes { d with vts := d.vts ++ [(node, t, false)], vA := A7, vc := c7 }) = T := ⟨_, rfl⟩
    obtain ⟨B, hB⟩ : ∃ B, (((d.vts.length + 1 : Nat) : Int) == (d.l.length : Int)) = B := ⟨_, rfl⟩
    rw [hT, hB] at hdc
    rw [hB] at hD
    have hTv : topV (voteE e node t).votes = T := by rw [ht]; exact hT
    have HDC := hide hdc; have H8 := hide h8; have HO8 := hide ho8; have HTV := hide hTv; have HDD := hide hD
    clear h8 ho8 hdc hrel ht hD hT hB hTv hd8 hw8 HO7 HG7 HAT7 HBG7 fh7 fzg7 hgl7 hql7 c37
    cases B with
    | true =>
      go_wp2_with (go_at_call 35; refine (unhide HDC).mono ?_; rintro _ w9 ⟨rfl, hb9⟩; have H9 := hide ((unhide H8).new hb9); have HO9 := hide ((unhide HO8).trans (Only.of_new hb9)); have hs89 := hb9.size; clear hb9)
      go_ret3
      exact ⟨by rw [unhide HRV, unhide HDD, unhide HTV]; rfl, A7, c7, _, unhide H9, unhide HO9, fun k hk => hk.imp id fun h => h.1⟩
    | false =>
      go_wp2_with (go_at_call 35; refine (unhide HDC).mono ?_; rintro _ w9 ⟨rfl, hb9⟩; have H9 := hide ((unhide H8).new hb9); have HO9 := hide ((unhide HO8).trans (Only.of_new hb9)); have hs89 := hb9.size; clear hb9)
      go_ret3
      exact ⟨by rw [unhide HRV, unhide HDD]; rfl, A7, c7, _, unhide H9, unhide HO9, fun k hk => hk.imp id fun h => h.1⟩
end Go.Proofs.Ytcljendidhfobaa
