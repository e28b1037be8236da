/- The document's Start; told. -/
import Derived.Test.YtcljendidhfobaaCoDoc
import Derived.Test.YtcljendidhfobaaCoShB
namespace Go.Proofs.Ytcljendidhfobaa
set_option linter.unusedVariables false
open Go.RowKit

theorem entinfo2 : (Try.prog.info? 82).map (fun i => (i.zero, i.size, i.bytes)) = some (some (.agg #[.int .u64 0, .int .u64 0, .slice none 0 0, .slice none 0 0]), 4, 64) := by kernel_rfl
theorem dstart_empty (q : Nat) (tx low : Int) (A : Option Addr) (c : Nat) (w : World) : Calls Try.prog 22 #[.pointer (some ⟨q, 0, none⟩), .int .u64 tx, .int .u64 low, .slice A 0 c] w fun e w' => e = .returned (.int .i64 1) ∧ w = w' := by
  go_enter Try.func22, Try.ntmps22
  go_wp2_with fail
  go_ret
  exact ⟨rfl, rfl⟩
theorem dstart_there (S : Nat → Prop) (q : Nat) (oA : Option Addr) (oc : Nat) (D : List Dt) (tx low : Int) (i : Nat) (d : Dt) (A : Option Addr) (n c : Nat) (w : World) (h : DocAt w S q oA oc D) (hn : atD D tx i d) (hl : D.length ≤ 4096) (hn0 : n ≠ 0) :
    Calls Try.prog 22 #[.pointer (some ⟨q, 0, none⟩), .int .u64 tx, .int .u64 low, .slice A n c] w fun e w' => e = .returned (.int .i64 8) ∧ w = w' := by
  have HF := hide (rfind_yes S q oA oc D tx i d w h hn hl)
  have g1 : ((n : Int) == 0) = false := beq_eq_false_iff_ne.2 (by omega)
  have g2 : ¬ (n : Int) = 0 := by omega
  have g3 : (0 : Int) ≤ (i : Int) := by omega
  clear h hn
  go_enter Try.func22, Try.ntmps22
  go_wp2_with (go_at_call 33; refine (unhide HF).mono ?_; rintro _ w2 ⟨rfl, rfl⟩)
  go_ret
  exact ⟨rfl, rfl⟩
/-- an entry of the document's that is being made: at g, its row of shares, its time -/
structure DMaking (w : World) (h0 g : Nat) (tx low : Int) (A : Option Addr) (k c : Nat) (lk : List Sq) : Prop where
  blk : Blk w g 82 #[.int .u64 tx, .int .u64 low, .slice A k c, .slice none 0 0]
  row : w.ownsRow h0 57 2 (.slice A k c) k (srow lk)
  vers : ∀ s ∈ lk, w.ownsRow h0 33 6 (.slice s.A s.vs.length s.c) s.vs.length (vrow s.vs)
theorem DMaking.new {w w' : World} {h0 g : Nat} {tx low : Int} {A : Option Addr} {k c : Nat} {lk : List Sq} (h : DMaking w h0 g tx low A k c lk) (hb : Below w.heap.size w w') : DMaking w' h0 g tx low A k c lk :=
  ⟨h.blk.below hb h.blk.lt, own_below h.row hb fun g hg => (h.row.lt g hg).2, fun s hs => own_below (h.vers s hs) hb fun g hg => ((h.vers s hs).lt g hg).2⟩
theorem DMaking.push {w w' : World} {h0 g : Nat} {tx low : Int} {A A4 A7 : Option Addr} {k c c4 c7 : Nat} {lk : List Sq} {nd : Int} {vs : List Vr} (h : DMaking w h0 g tx low A k c lk) (hgh : h0 ≤ g) (hvs : w.ownsRow h0 33 6 (.slice A4 vs.length c4) vs.length (vrow vs))
    (hr : w'.ownsRow h0 57 2 (.slice A7 (k + 1) c7) (k + 1) (srow lk ++ [.int .i64 nd, .slice A4 vs.length c4])) {cs : Array Value} {t : TypeId} (hg : (w.alloc (.cells cs t)).grownBy w' (Value.slice A k c).ownBlock) :
    DMaking (w'.setCell ⟨g, 2, none⟩ (.slice A7 (k + 1) c7)) h0 g tx low A7 (k + 1) c7 (lk ++ [⟨nd, vs, A4, c4⟩]) ∧ Below h0 w (w'.setCell ⟨g, 2, none⟩ (.slice A7 (k + 1) c7)) := by
  have hgo : (Value.slice A k c).ownBlock ≠ some g := fun e => by
    obtain ⟨cur, hb⟩ := own_blk h.row e
    exact absurd (blk_type h.blk hb) (by decide)
  have o1 : Only (fun b => (Value.slice A k c).ownBlock = some b) w w' := (Only.of_new ((Below.refl _ w).alloc (Nat.le_refl _) _)).trans (Only.of_grown hg fun b hb => hb)
  have o2 : Only (fun b => (Value.slice A k c).ownBlock = some b ∨ b = g) w (w'.setCell ⟨g, 2, none⟩ (.slice A7 (k + 1) c7)) := Only.setCell (S := fun b => (Value.slice A k c).ownBlock = some b ∨ b = g) (p := ⟨g, 2, none⟩) (o1.mono fun b _ hb => .inl hb) (.inr rfl) _
  have hb1 : Blk w' g 82 _ := h.blk.only o1 hgo
  have hvp := rvers_push (nd := nd) h.row h.vers hvs hg
  refine ⟨⟨hb1.set_ 2 _, ?_, fun s hs => ?_⟩, o2.below ?_ fun b hb => ?_⟩
  · rw [srow_app]
    refine own_only hr (Only.setCell (S := fun b => b = g) (p := ⟨g, 2, none⟩) (Only.refl _ _) rfl _) fun b hb e => ?_
    subst e
    obtain ⟨cur, hb2⟩ := own_blk hr hb
    exact absurd (blk_type hb1 hb2) (by decide)
  · refine own_only (hvp s hs) (Only.setCell (S := fun b => b = g) (p := ⟨g, 2, none⟩) (Only.refl _ _) rfl _) fun b hb e => ?_
    subst e
    obtain ⟨cur, hb2⟩ := own_blk (hvp s hs) hb
    exact absurd (blk_type hb1 hb2) (by decide)
  · exact Nat.le_trans hgh (Nat.le_of_lt h.blk.lt)
  · rcases hb with hb | rfl
    · exact (h.row.lt b hb).1
    · exact hgh
/-- a new entry behind the others -/
theorem DocAt.add {w w1 w' : World} {S : Nat → Prop} {q oc c : Nat} {oA A : Option Addr} {D : List Dt} {d : Dt} (h : DocAt w S q oA oc D) (hb : Below w.heap.size w w1) (hsv : w1.ownsRow w.heap.size 57 2 d.sv d.l.length (srow d.l)) (hver : ∀ s ∈ d.l, w1.ownsRow w.heap.size 33 6 (.slice s.A s.vs.length s.c) s.vs.length (vrow s.vs))
    (hv0 : d.vA = none ∧ d.vts = [] ∧ d.vc = 0) (ho : Only (fun k => k = q ∨ (Value.slice oA D.length oc).ownBlock = some k) w1 w') (hbk : Blk w' q 64 #[.slice A (D.length + 1) c]) (hr : w'.ownsRow 0 82 4 (.slice A (D.length + 1) c) (D.length + 1) (erow (D ++ [d])))
    (hat : ∀ k, (Value.slice A (D.length + 1) c).ownBlock = some k → (Value.slice oA D.length oc).ownBlock = some k ∨ w.heap.size ≤ k) : DocAt w' (fun k => S k ∨ (w.heap.size ≤ k ∧ k < w'.heap.size)) q A c (D ++ [d]) := by
  have h1 := h.new hb
  have hlen : (D ++ [d]).length = D.length + 1 := by simp
  have hX : ∀ {v : Value} {n e size base : Nat} {xs : List Value}, w1.ownsRow base e size v n xs → e ≠ 64 → e ≠ 82 → ∀ k, v.ownBlock = some k → ¬ (k = q ∨ (Value.slice oA D.length oc).ownBlock = some k) := fun hw h2 h3 k hk hS => by
    obtain ⟨cur, hb2⟩ := own_blk hw hk
    rcases hS with rfl | hS
    · exact h2 (blk_type hb2 h1.blk)
    · obtain ⟨cur2, hb3⟩ := own_blk h1.row hS
      exact h3 (blk_type hb2 hb3)
  have hvv : d.vv = .slice none 0 0 := by unfold Dt.vv; rw [hv0.1, hv0.2.1, hv0.2.2]; rfl
  have hvn : d.vv.ownBlock = none := by rw [hvv]; rfl
  have hs1 := ho.size
  refine ⟨by rw [hlen]; exact hbk, by rw [hlen]; exact hr, fun x hx => ?_, fun x hx => ?_, fun x hx s hs => ?_, fun i j a b hne ha hb2 k hk1 hk2 => ?_, fun k hk => ?_, fun k hk => ?_⟩
  · rcases List.mem_append.1 hx with hx | hx
    · exact own_only (h1.vts x hx) ho (hX (h1.vts x hx) (by decide) (by decide))
    · simp at hx
      subst hx
      rw [hvv, hv0.2.1]
      exact own_nil _ _ _ _
  · rcases List.mem_append.1 hx with hx | hx
    · exact own_only (h1.shs x hx) ho (hX (h1.shs x hx) (by decide) (by decide))
    · simp at hx
      subst hx
      exact own_more (own_only hsv ho (hX hsv (by decide) (by decide))) fun _ _ => Nat.zero_le _
  · rcases List.mem_append.1 hx with hx | hx
    · exact own_only (h1.vers x hx s hs) ho (hX (h1.vers x hx s hs) (by decide) (by decide))
    · simp at hx
      subst hx
      exact own_more (own_only (hver s hs) ho (hX (hver s hs) (by decide) (by decide))) fun _ _ => Nat.zero_le _
  · have key : ∀ (j : Nat) (x : Dt), (D ++ [d])[j]? = some x → x.vv.ownBlock = some k → D[j]? = some x := fun j x hx hk => by
      rcases Nat.lt_or_ge j D.length with h | h
      · rw [List.getElem?_append_left h] at hx; exact hx
      · rw [List.getElem?_append_right h] at hx
        have : x = d := by
          rcases hq : j - D.length with _ | n
          · rw [hq] at hx; simp at hx; exact hx.symm
          · rw [hq] at hx; simp at hx
        subst this
        rw [hvn] at hk
        cases hk
    exact h.apart i j a b hne (key i a ha hk1) (key j b hb2 hk2) k hk1 hk2
  · rcases hk with rfl | hk | ⟨x, hx, hk⟩
    · exact .inl (h.foot _ (.inl rfl))
    · rw [hlen] at hk
      rcases hat k hk with h2 | h2
      · exact .inl (h.foot _ (.inr (.inl h2)))
      · exact .inr ⟨h2, (hr.lt k hk).2⟩
    · rcases List.mem_append.1 hx with hx | hx
      · exact .inl (h.foot _ (.inr (.inr ⟨x, hx, hk⟩)))
      · simp at hx
        subst hx
        rcases hk with hk | hk | ⟨s, hs, hk⟩
        · rw [hvn] at hk; cases hk
        · have := hsv.lt k hk; exact .inr ⟨this.1, by omega⟩
        · have := (hver s hs).lt k hk; exact .inr ⟨this.1, by omega⟩
  · rcases hk with hk | hk
    · have := h.lt k hk
      have := hb.size
      omega
    · exact hk.2
end Go.Proofs.Ytcljendidhfobaa
