/- Two new ends; what stands while the second one takes frames. -/
import Derived.Test.YtmmkjphkfhgcpaaLinkTwoSame
namespace Go.Proofs.Ytmmkjphkfhgcpaa
set_option linter.unusedVariables false
open Go.RowKit

/-- two new ends and nothing between them -/
theorem two_start {ep : Int} {w w1 w2 : World} {pa pb : Nat} (ha : EndAt w1 pa (newS ep w.heap.size)) (hma : Mine w.heap.size pa (newS ep w.heap.size)) (h1 : Below w.heap.size w w1) (hb : EndAt w2 pb (newS ep w1.heap.size)) (hmb : Mine w1.heap.size pb (newS ep w1.heap.size)) (h2 : Below w1.heap.size w1 w2) :
    TwoSt w (w2.alloc (.cells (twoCells pa pb ⟨none, 0, [], none, 0, [], none, 0, []⟩) 41)) w2.heap.size pa pb (newS ep w.heap.size) (newS ep w1.heap.size) ⟨none, 0, [], none, 0, [], none, 0, []⟩ ∧ TInv ep (newS ep w.heap.size) (newS ep w1.heap.size) ⟨none, 0, [], none, 0, [], none, 0, []⟩ 0 := by
  have hal : Below w2.heap.size w2 (w2.alloc (.cells (twoCells pa pb ⟨none, 0, [], none, 0, [], none, 0, []⟩) 41)) := (Below.refl _ _).alloc (Nat.le_refl _) _
  have s1 := h1.size
  have s2 := h2.size
  have ha2 := ha.new h2
  have nf : ∀ k, TFoot w2.heap.size ⟨none, 0, [], none, 0, [], none, 0, []⟩ k → k = w2.heap.size := fun k hk => by
    rcases hk with h | h | h | h
    · exact h
    · simp [rowV, Value.ownBlock] at h
    · simp [sentV, Value.ownBlock] at h
    · simp [cameV, Value.ownBlock] at h
  refine ⟨⟨⟨Blk.new w2 _ _, own_nil _ _ _ _, own_nil _ _ _ _, own_nil _ _ _ _, fun x hx => by simp at hx, fun x hx => by simp at hx, fun k hk => by simp [sentV, Value.ownBlock] at hk, by omega⟩, ha2.new hal, hb.new hal, fun k hk hk' => ?_, fun k hk hk' => ?_, fun k hk hk' => ?_, hma, fun k hk => by have := hmb k hk; omega, (h1.trans (h2.mono s1)).trans (hal.mono (by omega)), fun x hx => by simp at hx⟩,
    ⟨newS_inv _ _ _, newS_inv _ _ _, rfl, rfl, ⟨0, rfl, by simp, by simp, rfl⟩, rfl, fun c => rfl, rfl, rfl, rfl, rfl, by simp, fun c x hx => by simp [newS] at hx, fun x hx => by simp at hx, by simp, fun x hx => by simp at hx⟩⟩
  · have := ha.foot k hk
    have := hmb k hk'
    omega
  · have := nf k hk
    have := ha2.foot k hk'
    omega
  · have := nf k hk
    have := hb.foot k hk'
    omega

section
variable {w0 w w' : World} {pt pa pb : Nat} {sa sb : LS} {t : TR}
/-- rows of frames stand while what came is written -/
theorem TwoSt.framesC {w1 w3 : World} {v' : Value} {i base n : Nat} {v : Value} {xs : List Value} (h : TwoSt w0 w1 pt pa pb sa sb t) (hg : w1.grownBy w3 (cameV t).ownBlock) (hr : w1.ownsRow base 31 5 v n xs) :
    (w3.setCell ⟨pt, i, none⟩ v').ownsRow base 31 5 v n xs ∧ By w1 (w3.setCell ⟨pt, i, none⟩ v') := by
  have ho : Only (fun k => k = pt ∨ (cameV t).ownBlock = some k) w1 (w3.setCell ⟨pt, i, none⟩ v') := Only.setCell (S := fun k => k = pt ∨ (cameV t).ownBlock = some k) (p := ⟨pt, i, none⟩) (Only.of_grown hg fun k hk => .inr hk) (.inl rfl) _
  refine ⟨own_only hr ho fun k hk hS => ?_, By.two ho fun k hk hS => ?_⟩
  · obtain ⟨cur, hb⟩ := own_at hr hk
    rcases hS with rfl | hS
    · exact absurd (blk_types h.tt.blk hb) (by decide)
    · obtain ⟨cur2, hb2⟩ := own_at h.tt.came hS
      exact absurd (blk_types hb2 hb) (by decide)
  · rcases hS with rfl | hS
    · exact ⟨_, _, h.tt.blk, by decide⟩
    · obtain ⟨cur, hb⟩ := own_at h.tt.came hS
      exact ⟨_, _, hb, by decide⟩
/-- .. and while an end takes a frame -/
theorem EndAt.frames {w w' : World} {p base n : Nat} {s : LS} {v : Value} {xs : List Value} (h : EndAt w p s) (ho : Only (Foot p s) w w') (hr : w.ownsRow base 31 5 v n xs) : w'.ownsRow base 31 5 v n xs :=
  own_only hr ho fun k hk hS => by
    obtain ⟨cur, hb⟩ := own_at hr hk
    rcases hS with rfl | rfl | hS
    · exact absurd (blk_types h.blk hb) (by decide)
    · obtain ⟨es, c, hm⟩ := Kp.blk h.kp
      unfold Blk at hb
      rw [hm] at hb
      injection hb with hb
      cases hb
    · obtain ⟨cur2, hb2⟩ := h.que.blk k hS
      exact absurd (blk_types hb2 hb) (by decide)
end
end Go.Proofs.Ytmmkjphkfhgcpaa
