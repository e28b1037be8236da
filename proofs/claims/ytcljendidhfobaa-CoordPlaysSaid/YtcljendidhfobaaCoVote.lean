/- Vote. -/
import Derived.Test.YtcljendidhfobaaCoDo
namespace Go.Proofs.Ytcljendidhfobaa
set_option linter.unusedVariables false
open Go.RowKit

theorem vote_nil (tx node at_ : Int) (w : World) : Calls Try.prog 16 #[.pointer none, .int .u64 tx, .int .i64 node, .int .u64 at_] w fun e w' => e = .returned (.tuple #[.int .u64 0, .bool false, .int .i64 1]) ∧ w = w' := by
  have HF := hide (find_nil tx node w)
  go_enter Try.func16, Try.ntmps16
  go_wp2_with (go_at_call 30; refine (unhide HF).mono ?_; rintro _ w2 ⟨rfl, rfl⟩)
  go_ret3
  exact ⟨rfl, rfl⟩
theorem vote_none (S : Nat → Prop) (p : Nat) (T : List Et) (tx node at_ : Int) (w : World) (h : TabAt w S p T) (h0 : 0 ≤ tx) (h1 : tx ≤ 18446744073709551615) (hn : getT T tx = none) :
    Calls Try.prog 16 #[.pointer (some ⟨p, 0, none⟩), .int .u64 tx, .int .i64 node, .int .u64 at_] w fun e w' => e = .returned (.tuple #[.int .u64 0, .bool false, .int .i64 7]) ∧ w = w' := by
  have HF := hide (find_none S p T tx node w h h0 h1 hn)
  clear h hn h0 h1
  go_enter Try.func16, Try.ntmps16
  go_wp2_with (go_at_call 30; refine (unhide HF).mono ?_; rintro _ w2 ⟨rfl, rfl⟩)
  go_ret3
  exact ⟨rfl, rfl⟩
/-- what a vote answers, and the entry behind it -/
def voteE (e : Et) (node at_ : Int) : Et := { e with votes := e.votes ++ [(node, at_)] }
def voteR (e : Et) (node at_ : Int) : Value :=
  if e.has node = false then .tuple #[.int .u64 0, .bool false, .int .i64 18]
  else if (e.votes.lookup node).isSome then .tuple #[.int .u64 0, .bool false, .int .i64 8]
  else if at_ ≤ e.low then .tuple #[.int .u64 0, .bool false, .int .i64 11]
  else if (voteE e node at_).dec then .tuple #[.int .u64 (topV (voteE e node at_).votes), .bool true, .int .i64 0]
  else .tuple #[.int .u64 0, .bool false, .int .i64 0]
def votedE (e : Et) (node at_ : Int) : Bool := e.has node && !(e.votes.lookup node).isSome && !(decide (at_ ≤ e.low))
theorem look_app (l : List (Int × Int)) (node at_ a : Int) (h : l.lookup node = none) : (l ++ [(node, at_)]).lookup a = if a = node then some at_ else l.lookup a := by
  rw [List.lookup_append]
  by_cases ha : a = node
  · subst ha
    rw [h]
    simp [List.lookup]
  · rw [if_neg ha]
    have : (a == node) = false := beq_eq_false_iff_ne.2 ha
    simp [List.lookup, this]
theorem EntAt.vlook {w : World} {F : Nat → Prop} {x : Ex} {e : Et} (h : EntAt w F x e) {node : Int} (h0 : -9223372036854775808 ≤ node) (h1 : node ≤ 9223372036854775807) :
    (Instr.lookup 42 (.map (some x.vm)) (.int .i64 node) true).run Try.prog w = .ok (.tuple #[((e.votes.lookup node).map (Value.int .u64)).getD (.int .u64 0), .bool ((e.votes.lookup node).map (Value.int .u64)).isSome]) w :=
  Kq.lookOk h.vm Try.underlying3 Try.underlying42 (fun w => rfl) (wfi h0 h1)
set_option maxHeartbeats 2000000 in
theorem vote_no (S : Nat → Prop) (p : Nat) (T : List Et) (tx node at_ : Int) (e0 : Et) (w : World) (h : TabAt w S p T) (h0 : 0 ≤ tx) (h1 : tx ≤ 18446744073709551615) (hn : getT T tx = some e0) (hc : e0.shs.length ≤ 4096)
    (n0 : -9223372036854775808 ≤ node) (n1 : node ≤ 9223372036854775807) (hv : votedE e0 node at_ = false) :
    Calls Try.prog 16 #[.pointer (some ⟨p, 0, none⟩), .int .u64 tx, .int .i64 node, .int .u64 at_] w fun e w' => e = .returned (voteR e0 node at_) ∧ Below w.heap.size w w' := by
  obtain ⟨y, h⟩ := h
  have HF := hide (find_any S p y T tx node e0 w h h0 h1 hn hc)
  have he := h.ents e0 (getT_mem hn)
  obtain rfl : e0.tx = tx := getT_tx hn
  have HE := hide he
  generalize y.X e0.tx = x at HF HE
  clear h he hn h0 h1
  unfold votedE at hv
  by_cases hh : e0.has node = true
  · by_cases hl : (e0.votes.lookup node).isSome = true
    · have hR : voteR e0 node at_ = .tuple #[.int .u64 0, .bool false, .int .i64 8] := by simp [voteR, hh, hl]
      rw [hR]
      have HH := hide hh
      have HL := hide hl
      clear hh hl hR hv
      go_enter Try.func16, Try.ntmps16
      go_wp2_with (go_at_call 30; refine (unhide HF).mono ?_; rintro _ w2 ⟨rfl, hb⟩; rw [findR_yes (unhide HH)]
                   have he2 := (unhide HE).only (S := fun _ => False) (Only.of_new hb) (fun _ _ h => h); have fl := he2.vlook n0 n1; simp only [Option.isSome_map, unhide HL] at fl; obtain ⟨f0, f1, f2, f3, f4, f5⟩ := entAt he2.blk; have hgl := he2.blk.lt; have HB := hide hb; clear hb he2; unfold ptrOf)
      go_ret3
      exact ⟨rfl, unhide HB⟩
    · have hlo : at_ ≤ e0.low := by
        rw [hh, (by simpa only [Bool.not_eq_true] using hl : (e0.votes.lookup node).isSome = false)] at hv
        simpa using hv
      have hR : voteR e0 node at_ = .tuple #[.int .u64 0, .bool false, .int .i64 11] := by simp [voteR, hh, hl, hlo]
      rw [hR]
      have hl2 : (e0.votes.lookup node).isSome = false := by simpa only [Bool.not_eq_true] using hl
      have g1 : decide (at_ ≤ e0.low) = true := decide_eq_true hlo
      have HH := hide hh
      have HL := hide hl2
      clear hh hl hR hv hl2 hlo
      go_enter Try.func16, Try.ntmps16
      go_wp2_with (go_at_call 30; refine (unhide HF).mono ?_; rintro _ w2 ⟨rfl, hb⟩; rw [findR_yes (unhide HH)]
                   have he2 := (unhide HE).only (S := fun _ => False) (Only.of_new hb) (fun _ _ h => h); have fl := he2.vlook n0 n1; simp only [Option.isSome_map, unhide HL] at fl; obtain ⟨f0, f1, f2, f3, f4, f5⟩ := entAt he2.blk; have hgl := he2.blk.lt; have HB := hide hb; clear hb he2; unfold ptrOf)
      go_ret3
      exact ⟨rfl, unhide HB⟩
  · have hh2 : e0.has node = false := by simpa using hh
    have hR : voteR e0 node at_ = .tuple #[.int .u64 0, .bool false, .int .i64 18] := by simp [voteR, hh2]
    rw [hR]
    have HH := hide hh2
    clear hh hh2 hR hv
    go_enter Try.func16, Try.ntmps16
    go_wp2_with (go_at_call 30; refine (unhide HF).mono ?_; rintro _ w2 ⟨rfl, hb⟩; rw [findR_no (unhide HH)]; have HB := hide hb; clear hb)
    go_ret3
    exact ⟨rfl, unhide HB⟩
theorem votedE_yes {e : Et} {node at_ : Int} (h : votedE e node at_ = true) : e.has node = true ∧ e.votes.lookup node = none ∧ ¬ at_ ≤ e.low := by
  simp only [votedE, Bool.and_eq_true, Bool.not_eq_true', decide_eq_false_iff_not] at h
  exact ⟨h.1.1, Option.not_isSome_iff_eq_none.1 (by rw [h.1.2]; decide), h.2⟩
theorem EntAt.voted {w w' : World} {F : Nat → Prop} {x : Ex} {e : Et} {node at_ : Int} (h : EntAt w F x e) (hl : e.votes.lookup node = none) (hb : Blk w' x.g 76 (entCells x (voteE e node at_)))
    (hk : Kq Try.prog 3 .i64 (.int .u64 0) w' x.vm (e.votes.length + 1) (upd (fun a => (e.votes.lookup a).map (Value.int .u64)) node (some (.int .u64 at_)))) (ho : Only (fun k => k = x.vm ∨ k = x.g) w w') : EntAt w' F x (voteE e node at_) := by
  refine ⟨hb, h.shs, h.at_.only ho fun k hk hs => ?_, ?_, h.em.only ho (fun hs => ?_), h.fg, h.fv, h.fe, h.ne⟩
  · rcases hs with hs | hs
    · exact hk.2.2.1 hs
    · exact hk.2.1 hs
  · have hn : (voteE e node at_).votes.length = e.votes.length + 1 := by simp [voteE]
    rw [hn]
    refine hk.ext fun a _ => ?_
    show _ = ((e.votes ++ [(node, at_)]).lookup a).map (Value.int .u64)
    rw [look_app _ _ _ _ hl]
    unfold upd
    split <;> rfl
  · rcases hs with hs | hs
    · exact h.ne hs.symm
    · exact h.ge hs.symm
set_option maxHeartbeats 4000000 in
theorem vote_yes (S : Nat → Prop) (p : Nat) (T : List Et) (tx node at_ : Int) (e0 : Et) (w : World) (h : TabAt w S p T) (h0 : 0 ≤ tx) (h1 : tx ≤ 18446744073709551615) (hn : getT T tx = some e0) (hc : e0.shs.length ≤ 4096) (hcv : e0.votes.length ≤ 4096)
    (n0 : -9223372036854775808 ≤ node) (n1 : node ≤ 9223372036854775807) (hv : votedE e0 node at_ = true) :
    Calls Try.prog 16 #[.pointer (some ⟨p, 0, none⟩), .int .u64 tx, .int .i64 node, .int .u64 at_] w fun e w' => e = .returned (voteR e0 node at_) ∧ TabAt w' S p (putT T (voteE e0 node at_)) ∧ Only S w w' := by
  obtain ⟨y, h⟩ := h
  have HF := hide (find_any S p y T tx node e0 w h h0 h1 hn hc)
  have HT := hide h
  have HN := hide hn
  have he := h.ents e0 (getT_mem hn)
  obtain rfl : e0.tx = tx := getT_tx hn
  have HE := hide he
  have hown : ∀ k, y.own k = some e0.tx → S k := fun k hk => (h.own k _ hk).1
  have HOW := hide hown
  obtain ⟨hh, hl, hlo⟩ := votedE_yes hv
  have hR : voteR e0 node at_ = if (voteE e0 node at_).dec then .tuple #[.int .u64 (topV (voteE e0 node at_).votes), .bool true, .int .i64 0] else .tuple #[.int .u64 0, .bool false, .int .i64 0] := by simp [voteR, hh, hl, hlo]
  have HR := hide hR
  have g1 : decide (at_ ≤ e0.low) = false := decide_eq_false hlo
  have hl2 : (e0.votes.lookup node).isSome = false := by simp [hl]
  have HH := hide hh
  have HL := hide hl2
  have HL0 := hide hl
  obtain ⟨x, hx⟩ : ∃ x, y.X e0.tx = x := ⟨_, rfl⟩
  rw [hx] at HF HE
  have HX := hide hx
  clear h he hn h0 h1 hx hh hl hlo hl2 hR hv hown
  go_enter Try.func16, Try.ntmps16
  go_upto_region 11 with (first
    | (go_at_call 30; refine (unhide HF).mono ?_; rintro _ w2 ⟨rfl, hb⟩; rw [findR_yes (unhide HH)]
       have he2 := (unhide HE).only (S := fun _ => False) (Only.of_new hb) (fun _ _ h => h); have fl := he2.vlook n0 n1; simp only [Option.isSome_map, unhide HL] at fl; obtain ⟨f0, f1, f2, f3, f4, f5⟩ := entAt he2.blk; have hgl := he2.blk.lt
       obtain ⟨w3, hrun3, hk3, ho3, hs3⟩ := Kq.store he2.vm Try.underlying3 Try.underlying42 (by simp only [maxLen]; omega) (wfi n0 n1) (by rw [unhide HL0]; rfl) (.int .u64 at_)
       have hb3 := he2.blk.only ho3 he2.gv
       have HB := hide hb; have HE2 := hide he2; have HK3 := hide hk3; have HO3 := hide ho3; have HB3 := hide hb3; have hgl3 := hb3.lt; have fz3 := hb3.frozen 4; obtain ⟨f30, f31, f32, f33, f34, f35⟩ := entAt hb3; clear hb he2 hk3 ho3 hb3 hs3; unfold ptrOf))
  clear f0 f1 f2 f3 f4 f5 f30 f31 f32 f33 f34 f35 fl hrun3 hgl
  rw [show (if topV e0.votes < at_ then at_ else topV e0.votes) = topV (voteE e0 node at_).votes from (topV_app e0.votes (node, at_)).symm]
  obtain ⟨N, hN⟩ : ∃ N, e0.votes.length + 1 = N := ⟨_, rfl⟩
  obtain ⟨t, ht⟩ : ∃ t, topV (voteE e0 node at_).votes = t := ⟨_, rfl⟩
  obtain ⟨D, hD⟩ : ∃ D, (voteE e0 node at_).dec = D := ⟨_, rfl⟩
  have hd : ((N : Int) == (e0.shs.length : Int)) = D := by subst hN hD; simp [Et.dec, voteE]
  rw [ht]
  obtain ⟨w4, hw4⟩ : ∃ u, w3.setCell ⟨x.g, 4, none⟩ (.int .u64 t) = u := ⟨_, rfl⟩
  rw [hw4]
  have hb4 : Blk w4 x.g 76 #[.int .u64 e0.low, .slice x.A e0.shs.length x.c, .map (some x.vm), .map (some x.em), .int .u64 t, .bool e0.dec] := hw4 ▸ (unhide HB3).set_ 4 _
  have ho4 : Only (fun k => k = x.g) w3 w4 := hw4 ▸ Only.setCell (S := fun k => k = x.g) (p := ⟨x.g, 4, none⟩) (Only.refl _ w3) rfl _
  have hk4 := (unhide HK3).only ho4 (unhide HE2).gv.symm
  rw [hN] at hk4
  have hlen := fun ty => Kq.len (w := w4.drew) (hk4.drewN 1) Try.underlying42 (t := 42) ty
  have f41 : w4.cell? ⟨x.g, 1, none⟩ = some (.slice x.A e0.shs.length x.c) := hb4.cell 1
  have f42 : w4.cell? ⟨x.g, 2, none⟩ = some (.map (some x.vm)) := hb4.cell 2
  have f44 : w4.cell? ⟨x.g, 4, none⟩ = some (.int .u64 t) := hb4.cell 4
  have f45 : w4.cell? ⟨x.g, 5, none⟩ = some (.bool e0.dec) := hb4.cell 5
  have fz5 := hb4.frozen 5
  have hgl4 := hb4.lt
  have HB4 := hide hb4
  have HO4 := hide ho4
  have HK4 := hide hk4
  have HNN := hide hN
  have HT2 := hide ht
  have HDD := hide hD
  clear hb4 ho4 hk4 hN ht hD hw4 fz3 hgl3
  have hfin : TabAt (w4.drew.setCell ⟨x.g, 5, none⟩ (.bool D)) S p (putT T (voteE e0 node at_)) ∧ Only S w (w4.drew.setCell ⟨x.g, 5, none⟩ (.bool D)) := by
    have hb5 : Blk (w4.drew.setCell ⟨x.g, 5, none⟩ (.bool D)) x.g 76 (entCells x (voteE e0 node at_)) := by
      have h5 := Blk.set_ (w := w4.drew) (unhide HB4) 5 (.bool D)
      have e5 : entCells x (voteE e0 node at_) = #[.int .u64 e0.low, .slice x.A e0.shs.length x.c, .map (some x.vm), .map (some x.em), .int .u64 t, .bool D] := by
        unfold entCells
        rw [unhide HT2, unhide HDD]
        rfl
      rw [e5]
      exact h5
    have ho5 : Only (fun k => k = x.g) w4 (w4.drew.setCell ⟨x.g, 5, none⟩ (.bool D)) := Only.setCell (S := fun k => k = x.g) (p := ⟨x.g, 5, none⟩) (Only.refl _ w4).drew rfl _
    have ho25 : Only (fun k => k = x.vm ∨ k = x.g) w2 (w4.drew.setCell ⟨x.g, 5, none⟩ (.bool D)) := (((unhide HO3).mono fun k _ h => .inl h).trans ((unhide HO4).mono fun k _ h => .inr h)).trans (ho5.mono fun k _ h => .inr h)
    have hk5 := (unhide HK4).only ho5 (unhide HE2).gv.symm
    rw [← unhide HNN] at hk5
    have he5 := (unhide HE2).voted (unhide HL0) hb5 hk5 ho25
    have hog : ∀ k, (k = x.vm ∨ k = x.g) → y.own k = some e0.tx := fun k hk => by
      rcases hk with rfl | rfl
      · exact (unhide HE2).fv
      · exact (unhide HE2).fg
    have how : Only (fun k => y.own k = some e0.tx) w (w4.drew.setCell ⟨x.g, 5, none⟩ (.bool D)) := (Only.of_new (unhide HB)).trans (ho25.mono fun k _ h => hog k h)
    refine ⟨⟨y, (unhide HT).put (e' := voteE e0 node at_) ?_ how ?_⟩, how.mono fun k _ h => unhide HOW k h⟩
    · show (getT T e0.tx).isSome = true
      rw [unhide HN]
      rfl
    · show EntAt _ (fun k => y.own k = some e0.tx) (y.X e0.tx) _
      rw [unhide HX]
      exact he5
  have HFI := hide hfin
  clear hfin
  rcases D with _ | _
  · go_region_law fail
    all_goals go_wp2_with fail
    all_goals
      go_ret3
      exact ⟨by rw [unhide HR, unhide HDD]; rfl, unhide HFI⟩
  · go_region_law fail
    all_goals go_wp2_with fail
    all_goals
      go_ret3
      exact ⟨by rw [unhide HR, unhide HDD, unhide HT2]; rfl, unhide HFI⟩
end Go.Proofs.Ytcljendidhfobaa
