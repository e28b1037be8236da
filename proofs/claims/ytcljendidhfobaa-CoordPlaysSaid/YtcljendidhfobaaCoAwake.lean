/- awake. -/
import Derived.Test.YtcljendidhfobaaCoStart
import Derived.Test.YtcljendidhfobaaCoVote
namespace Go.Proofs.Ytcljendidhfobaa
set_option linter.unusedVariables false
open Go.RowKit

section
variable {w : World} {S S' : Nat → Prop} {p : Nat} {y : Tx} {T : List Et}
theorem TabIn.more (h : TabIn w S p y T) (hs : ∀ k, S k → S' k) (hl : ∀ k, S' k → k < w.heap.size) : TabIn w S' p y T :=
  ⟨h.blk, h.map, h.ents, fun k a hk => ⟨hs _ (h.own k a hk).1, (h.own k a hk).2⟩, hs _ h.sp, hs _ h.sm, h.keys, hl⟩
theorem TabAt.more (h : TabAt w S p T) (hs : ∀ k, S k → S' k) (hl : ∀ k, S' k → k < w.heap.size) : TabAt w S' p T := by
  obtain ⟨y, h⟩ := h
  exact ⟨y, h.more hs hl⟩
end
def awQ : List Sq := [⟨0, [], none, 0⟩, ⟨2, [], none, 0⟩]
def awE : Et := ⟨7, 5, [(0, []), (2, [])], [], []⟩
theorem aw_apart : Apart (awQ.map Sq.sh) := by
  intro i j a b hij ha hb
  match i, j, hij with
  | 0, 1, _ =>
    simp [awQ, Sq.sh] at ha hb
    subst ha hb
    simp
  | 0, j + 2, _ => simp [awQ] at hb
  | 1, j + 2, _ => simp [awQ] at hb
  | i + 2, j, _ => simp [awQ] at ha
theorem aw_in (w : World) : ShsAt (w.alloc (.cells #[.int .i64 0, .slice none 0 0, .int .i64 2, .slice none 0 0] 28)) (fun k => k = w.heap.size) (some ⟨w.heap.size, 0, none⟩) awQ := by
  refine ⟨fun _ => ⟨_, rfl, rfl, by simp, fun j u hu => ?_⟩, fun s hs => ?_⟩
  · rw [Addr.add_lit, cell_of_row _ w.heap.size (0 + j) #[.int .i64 0, .slice none 0 0, .int .i64 2, .slice none 0 0] 28 (0, 0) (Blk.new _ _ _), Nat.zero_add, ← Array.getElem?_toList]
    exact hu
  · simp [awQ] at hs
    rcases hs with rfl | rfl <;> exact RdS.nil
theorem aw_start (S : Nat → Prop) (p : Nat) (w : World) (h : TabAt w S p []) :
    Calls Try.prog 10 #[.pointer (some ⟨p, 0, none⟩), .int .u64 7, .int .u64 5, .slice (some ⟨w.heap.size, 0, none⟩) 2 2] (w.alloc (.cells #[.int .i64 0, .slice none 0 0, .int .i64 2, .slice none 0 0] 28)) fun e w' =>
      e = .returned (.int .i64 0) ∧ TabAt w' (fun k => S k ∨ (w.heap.size ≤ k ∧ k < w'.heap.size)) p [awE] ∧ Only S w w' := by
  have hb : Below w.heap.size w (w.alloc (.cells #[.int .i64 0, .slice none 0 0, .int .i64 2, .slice none 0 0] 28)) := (Below.refl _ _).alloc (Nat.le_refl _) _
  have hc := start_any S (fun k => k = w.heap.size) p [] 7 5 (some ⟨w.heap.size, 0, none⟩) 2 awQ _ (h.new hb) (by omega) (by omega) rfl (by simp) (by simp [awQ]) (by simp [awQ]) (by simp [awQ]) (aw_in w) (by intro s hs; simp [awQ] at hs; rcases hs with rfl | rfl <;> simp)
  refine Calls.mono hc ?_
  rintro e w' (⟨hn, _⟩ | ⟨_, rfl, ht, ho⟩)
  · exact absurd aw_apart hn
  · refine ⟨rfl, ?_, (Only.of_new hb).trans ho⟩
    obtain ⟨y, ht⟩ := ht
    have ht2 : TabIn w' (fun k => S k ∨ ((w.alloc (.cells #[.int .i64 0, .slice none 0 0, .int .i64 2, .slice none 0 0] 28)).heap.size ≤ k ∧ k < w'.heap.size)) p y [awE] := ht
    have h1 := hb.size
    exact ⟨y, ht2.more (fun k hk => hk.imp id fun h => ⟨by omega, h.2⟩) (fun k hk => by
      rcases hk with hk | hk
      · exact ht2.lt k (.inl hk)
      · exact hk.2)⟩
theorem aw_vote1 (S : Nat → Prop) (p : Nat) (w : World) (h : TabAt w S p [awE]) :
    Calls Try.prog 16 #[.pointer (some ⟨p, 0, none⟩), .int .u64 7, .int .i64 0, .int .u64 9] w fun e w' => e = .returned (.tuple #[.int .u64 0, .bool false, .int .i64 0]) ∧ TabAt w' S p [voteE awE 0 9] ∧ Only S w w' :=
  Calls.mono (vote_yes S p [awE] 7 0 9 awE w h (by omega) (by omega) rfl (by simp [awE]) (by simp [awE]) (by omega) (by omega) rfl) fun e w' h => h
theorem aw_vote2 (S : Nat → Prop) (p : Nat) (w : World) (h : TabAt w S p [voteE awE 0 9]) :
    Calls Try.prog 16 #[.pointer (some ⟨p, 0, none⟩), .int .u64 7, .int .i64 2, .int .u64 6] w fun e w' => e = .returned (.tuple #[.int .u64 9, .bool true, .int .i64 0]) ∧ Only S w w' :=
  Calls.mono (vote_yes S p [voteE awE 0 9] 7 2 6 (voteE awE 0 9) w h (by omega) (by omega) rfl (by simp [awE, voteE]) (by simp [awE, voteE]) (by omega) (by omega) rfl) fun e w' h => ⟨h.1, h.2.2⟩
set_option maxHeartbeats 4000000 in
set_option maxRecDepth 20000 in
theorem awake_any (w : World) : Calls Try.prog 11 #[] w fun e w' => e = .returned (.bool true) ∧ Below w.heap.size w w' := by
  have HN := hide (new_tab w)
  go_enter Try.func11, Try.ntmps11
  go_wp2_with (first
    | (go_at_call 8; refine (unhide HN).mono ?_; rintro _ w1 ⟨p, rfl, ht1, hb1⟩
       have HT1 := hide ht1; have HB1 := hide hb1; clear ht1 hb1)
    | (go_at_call 10; with_reducible refine Calls.mono (aw_start _ p _ (unhide HT1)) ?_; rintro _ w2 ⟨rfl, ht2, ho2⟩
       have HT2 := hide ht2; have HB2 := hide ((unhide HB1).trans (ho2.below (unhide HB1).size fun k hk => hk.1)); have hs1 := (unhide HB1).size; clear ht2 ho2)
    | (go_at_call 16; with_reducible refine Calls.mono (aw_vote1 _ p _ (unhide HT2)) ?_; rintro _ w3 ⟨rfl, ht3, ho3⟩
       have HT3 := hide ht3; have HB3 := hide ((unhide HB2).trans (ho3.below (unhide HB2).size fun k hk => by rcases hk with hk | hk; exact hk.1; exact Nat.le_trans hs1 hk.1)); clear ht3 ho3)
    | (go_at_call 16; with_reducible refine Calls.mono (aw_vote2 _ p _ (unhide HT3)) ?_; rintro _ w4 ⟨rfl, ho4⟩
       have HB4 := hide ((unhide HB3).trans (ho4.below (unhide HB3).size fun k hk => by rcases hk with hk | hk; exact hk.1; exact Nat.le_trans hs1 hk.1)); clear ho4))
  go_ret
  exact ⟨rfl, unhide HB4⟩
end Go.Proofs.Ytcljendidhfobaa
