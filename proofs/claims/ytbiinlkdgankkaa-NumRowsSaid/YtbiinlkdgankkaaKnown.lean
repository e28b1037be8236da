/- The blocks that a call made and knows whole: one fact for them all. No function in sight. -/
import Derived.Test.YtbiinlkdgankkaaMem
namespace Go.Proofs.Ytbiinlkdgankkaa
set_option linter.unusedVariables false
open Go.RowKit

abbrev Known := List (Nat × TypeId × Array Value)
/-- what lay in W is as it was; the blocks L are later ones and known whole -/
structure Mem (W w : World) (L : Known) : Prop where
  below : Below W.heap.size W w
  blk : ∀ p ∈ L, Blk w p.1 p.2.1 p.2.2
  ge : ∀ p ∈ L, W.heap.size ≤ p.1
  apart : (L.map (·.1)).Nodup
section
variable {W w w' : World} {L : Known}
theorem Mem.start (w : World) : Mem w w [] := ⟨Below.refl _ _, by simp, by simp, by simp⟩
theorem Mem.at_ (h : Mem W w L) {k g : Nat} {t : TypeId} {cs : Array Value} (hk : L[k]? = some (g, t, cs)) : Blk w g t cs := h.blk _ (List.mem_of_getElem? hk)
theorem Mem.size (h : Mem W w L) : W.heap.size ≤ w.heap.size := h.below.size
theorem Mem.drew (h : Mem W w L) : Mem W w.drew L := ⟨h.below.drew, fun p hp => (h.blk p hp).drew, h.ge, h.apart⟩
theorem Mem.drewN (h : Mem W w L) (n : Nat) : Mem W (w.drewN n) L := ⟨below_drewN' h.below n, fun p hp => (h.blk p hp).drewN n, h.ge, h.apart⟩
theorem Mem.called (h : Mem W w L) (hb : Below w.heap.size w w') : Mem W w' L :=
  ⟨h.below.trans (hb.mono h.size), fun p hp => (h.blk p hp).below hb (h.blk p hp).lt, h.ge, h.apart⟩
theorem Mem.new (h : Mem W w L) (n : Nat) {t : TypeId} {cs : Array Value} (hn : w.heap.size = n) : Mem W (w.alloc (.cells cs t)) ((n, t, cs) :: L) := by
  subst hn
  refine ⟨h.below.alloc h.size _, fun p hp => ?_, fun p hp => ?_, ?_⟩
  · rcases List.mem_cons.1 hp with rfl | hp
    · exact Blk.new _ _ _
    · exact (h.blk p hp).alloc _
  · rcases List.mem_cons.1 hp with rfl | hp
    · exact h.size
    · exact h.ge p hp
  · rw [List.map_cons, List.nodup_cons]
    refine ⟨fun hm => ?_, h.apart⟩
    obtain ⟨p, hp, he⟩ := List.mem_map.1 hm
    have := (h.blk p hp).lt
    simp at he
    omega
theorem Mem.other (h : Mem W w L) (o : Obj) : Mem W (w.alloc o) L := ⟨h.below.alloc h.size _, fun p hp => (h.blk p hp).alloc _, h.ge, h.apart⟩
theorem Mem.setAt {L1 L2 : Known} {g i : Nat} {t : TypeId} {cs : Array Value} {v : Value} (h : Mem W w (L1 ++ (g, t, cs) :: L2)) : Mem W (w.setCell ⟨g, i, none⟩ v) (L1 ++ (g, t, cs.setIfInBounds i v) :: L2) := by
  have ha := h.apart
  simp only [List.map_append, List.map_cons] at ha
  have hd := List.nodup_append.1 ha
  have hB : W.heap.size ≤ g := h.ge (g, t, cs) (by simp)
  have hne : ∀ p, p ∈ L1 ∨ p ∈ L2 → p.1 ≠ g := by
    rintro p (hp | hp) e
    · exact hd.2.2 p.1 (List.mem_map_of_mem hp) g (by simp) e
    · have := (List.nodup_cons.1 hd.2.1).1
      exact this (List.mem_map.2 ⟨p, hp, e⟩)
  refine ⟨h.below.setCell hB _, fun p hp => ?_, fun p hp => ?_, by simpa using ha⟩
  · simp only [List.mem_append, List.mem_cons] at hp
    rcases hp with hp | rfl | hp
    · exact (h.blk p (by simp [hp])).far (hne p (.inl hp)) _
    · exact (h.blk (g, t, cs) (by simp)).set_ _ _
    · exact (h.blk p (by simp [hp])).far (hne p (.inr hp)) _
  · simp only [List.mem_append, List.mem_cons] at hp
    rcases hp with hp | rfl | hp
    · exact h.ge p (by simp [hp])
    · exact hB
    · exact h.ge p (by simp [hp])
theorem Mem.grownAt {L1 L2 : Known} {g : Nat} {t : TypeId} {cs cs' : Array Value} (h : Mem W w (L1 ++ (g, t, cs) :: L2)) (hb : Blk w' g t cs') (hg : w.grownBy w' (some g)) : Mem W w' (L1 ++ (g, t, cs') :: L2) := by
  have ha := h.apart
  simp only [List.map_append, List.map_cons] at ha
  have hd := List.nodup_append.1 ha
  have hB : W.heap.size ≤ g := h.ge (g, t, cs) (by simp)
  have hne : ∀ p, p ∈ L1 ∨ p ∈ L2 → p.1 ≠ g := by
    rintro p (hp | hp) e
    · exact hd.2.2 p.1 (List.mem_map_of_mem hp) g (by simp) e
    · have := (List.nodup_cons.1 hd.2.1).1
      exact this (List.mem_map.2 ⟨p, hp, e⟩)
  refine ⟨h.below.grown hg h.size (by rintro k hk; injection hk with hk; omega), fun p hp => ?_, fun p hp => ?_, by simpa using ha⟩
  · simp only [List.mem_append, List.mem_cons] at hp
    rcases hp with hp | rfl | hp
    · exact (h.blk p (by simp [hp])).grown hg (by have := hne p (.inl hp); simpa using this)
    · exact hb
    · exact (h.blk p (by simp [hp])).grown hg (by have := hne p (.inr hp); simpa using this)
  · simp only [List.mem_append, List.mem_cons] at hp
    rcases hp with hp | rfl | hp
    · exact h.ge p (by simp [hp])
    · exact hB
    · exact h.ge p (by simp [hp])
/-- what is not among the blocks grows or is written: a row of the call's own -/
theorem Mem.grownBy (h : Mem W w L) {row : Option Nat} (hg : w.grownBy w' row) (hr : ∀ g, row = some g → W.heap.size ≤ g) (hf : ∀ p ∈ L, some p.1 ≠ row) : Mem W w' L :=
  ⟨h.below.grown hg h.size hr, fun p hp => (h.blk p hp).grown hg (hf p hp), h.ge, h.apart⟩
theorem Mem.tail {p : Nat × TypeId × Array Value} (h : Mem W w (p :: L)) : Mem W w L := ⟨h.below, fun q hq => h.blk q (by simp [hq]), fun q hq => h.ge q (by simp [hq]), (List.nodup_cons.1 h.apart).2⟩
theorem Mem.cast {L' : Known} (h : Mem W w L) (e : L = L') : Mem W w L' := e ▸ h

theorem Mem.blk0  {g : Nat} {t : TypeId} {cs : Array Value} (h : Mem W w ((g, t, cs) :: L)) : Blk w g t cs := h.blk (g, t, cs) (by simp)
theorem Mem.set0  {g i : Nat} {t : TypeId} {cs : Array Value} {v : Value} (h : Mem W w ((g, t, cs) :: L)) : Mem W (w.setCell ⟨g, i, none⟩ v) ((g, t, cs.setIfInBounds i v) :: L) := Mem.setAt (L1 := []) h
theorem Mem.grown0  {g : Nat} {t : TypeId} {cs cs' : Array Value} (h : Mem W w ((g, t, cs) :: L)) (hb : Blk w' g t cs') (hg : w.grownBy w' (some g)) : Mem W w' ((g, t, cs') :: L) := Mem.grownAt (L1 := []) h hb hg
theorem Mem.as0  {g : Nat} {t : TypeId} {cs cs' : Array Value} (h : Mem W w ((g, t, cs) :: L)) (e : cs = cs') : Mem W w ((g, t, cs') :: L) := e ▸ h

theorem Mem.blk1 {q0 : Nat × TypeId × Array Value} {g : Nat} {t : TypeId} {cs : Array Value} (h : Mem W w (q0 :: (g, t, cs) :: L)) : Blk w g t cs := h.blk (g, t, cs) (by simp)
theorem Mem.set1 {q0 : Nat × TypeId × Array Value} {g i : Nat} {t : TypeId} {cs : Array Value} {v : Value} (h : Mem W w (q0 :: (g, t, cs) :: L)) : Mem W (w.setCell ⟨g, i, none⟩ v) (q0 :: (g, t, cs.setIfInBounds i v) :: L) := Mem.setAt (L1 := [q0]) h
theorem Mem.grown1 {q0 : Nat × TypeId × Array Value} {g : Nat} {t : TypeId} {cs cs' : Array Value} (h : Mem W w (q0 :: (g, t, cs) :: L)) (hb : Blk w' g t cs') (hg : w.grownBy w' (some g)) : Mem W w' (q0 :: (g, t, cs') :: L) := Mem.grownAt (L1 := [q0]) h hb hg
theorem Mem.as1 {q0 : Nat × TypeId × Array Value} {g : Nat} {t : TypeId} {cs cs' : Array Value} (h : Mem W w (q0 :: (g, t, cs) :: L)) (e : cs = cs') : Mem W w (q0 :: (g, t, cs') :: L) := e ▸ h

theorem Mem.blk2 {q0 : Nat × TypeId × Array Value} {q1 : Nat × TypeId × Array Value} {g : Nat} {t : TypeId} {cs : Array Value} (h : Mem W w (q0 :: q1 :: (g, t, cs) :: L)) : Blk w g t cs := h.blk (g, t, cs) (by simp)
theorem Mem.set2 {q0 : Nat × TypeId × Array Value} {q1 : Nat × TypeId × Array Value} {g i : Nat} {t : TypeId} {cs : Array Value} {v : Value} (h : Mem W w (q0 :: q1 :: (g, t, cs) :: L)) : Mem W (w.setCell ⟨g, i, none⟩ v) (q0 :: q1 :: (g, t, cs.setIfInBounds i v) :: L) := Mem.setAt (L1 := [q0, q1]) h
theorem Mem.grown2 {q0 : Nat × TypeId × Array Value} {q1 : Nat × TypeId × Array Value} {g : Nat} {t : TypeId} {cs cs' : Array Value} (h : Mem W w (q0 :: q1 :: (g, t, cs) :: L)) (hb : Blk w' g t cs') (hg : w.grownBy w' (some g)) : Mem W w' (q0 :: q1 :: (g, t, cs') :: L) := Mem.grownAt (L1 := [q0, q1]) h hb hg
theorem Mem.as2 {q0 : Nat × TypeId × Array Value} {q1 : Nat × TypeId × Array Value} {g : Nat} {t : TypeId} {cs cs' : Array Value} (h : Mem W w (q0 :: q1 :: (g, t, cs) :: L)) (e : cs = cs') : Mem W w (q0 :: q1 :: (g, t, cs') :: L) := e ▸ h

theorem Mem.blk3 {q0 : Nat × TypeId × Array Value} {q1 : Nat × TypeId × Array Value} {q2 : Nat × TypeId × Array Value} {g : Nat} {t : TypeId} {cs : Array Value} (h : Mem W w (q0 :: q1 :: q2 :: (g, t, cs) :: L)) : Blk w g t cs := h.blk (g, t, cs) (by simp)
theorem Mem.set3 {q0 : Nat × TypeId × Array Value} {q1 : Nat × TypeId × Array Value} {q2 : Nat × TypeId × Array Value} {g i : Nat} {t : TypeId} {cs : Array Value} {v : Value} (h : Mem W w (q0 :: q1 :: q2 :: (g, t, cs) :: L)) : Mem W (w.setCell ⟨g, i, none⟩ v) (q0 :: q1 :: q2 :: (g, t, cs.setIfInBounds i v) :: L) := Mem.setAt (L1 := [q0, q1, q2]) h
theorem Mem.grown3 {q0 : Nat × TypeId × Array Value} {q1 : Nat × TypeId × Array Value} {q2 : Nat × TypeId × Array Value} {g : Nat} {t : TypeId} {cs cs' : Array Value} (h : Mem W w (q0 :: q1 :: q2 :: (g, t, cs) :: L)) (hb : Blk w' g t cs') (hg : w.grownBy w' (some g)) : Mem W w' (q0 :: q1 :: q2 :: (g, t, cs') :: L) := Mem.grownAt (L1 := [q0, q1, q2]) h hb hg
theorem Mem.as3 {q0 : Nat × TypeId × Array Value} {q1 : Nat × TypeId × Array Value} {q2 : Nat × TypeId × Array Value} {g : Nat} {t : TypeId} {cs cs' : Array Value} (h : Mem W w (q0 :: q1 :: q2 :: (g, t, cs) :: L)) (e : cs = cs') : Mem W w (q0 :: q1 :: q2 :: (g, t, cs') :: L) := e ▸ h

theorem Mem.blk4 {q0 : Nat × TypeId × Array Value} {q1 : Nat × TypeId × Array Value} {q2 : Nat × TypeId × Array Value} {q3 : Nat × TypeId × Array Value} {g : Nat} {t : TypeId} {cs : Array Value} (h : Mem W w (q0 :: q1 :: q2 :: q3 :: (g, t, cs) :: L)) : Blk w g t cs := h.blk (g, t, cs) (by simp)
theorem Mem.set4 {q0 : Nat × TypeId × Array Value} {q1 : Nat × TypeId × Array Value} {q2 : Nat × TypeId × Array Value} {q3 : Nat × TypeId × Array Value} {g i : Nat} {t : TypeId} {cs : Array Value} {v : Value} (h : Mem W w (q0 :: q1 :: q2 :: q3 :: (g, t, cs) :: L)) : Mem W (w.setCell ⟨g, i, none⟩ v) (q0 :: q1 :: q2 :: q3 :: (g, t, cs.setIfInBounds i v) :: L) := Mem.setAt (L1 := [q0, q1, q2, q3]) h
theorem Mem.grown4 {q0 : Nat × TypeId × Array Value} {q1 : Nat × TypeId × Array Value} {q2 : Nat × TypeId × Array Value} {q3 : Nat × TypeId × Array Value} {g : Nat} {t : TypeId} {cs cs' : Array Value} (h : Mem W w (q0 :: q1 :: q2 :: q3 :: (g, t, cs) :: L)) (hb : Blk w' g t cs') (hg : w.grownBy w' (some g)) : Mem W w' (q0 :: q1 :: q2 :: q3 :: (g, t, cs') :: L) := Mem.grownAt (L1 := [q0, q1, q2, q3]) h hb hg
theorem Mem.as4 {q0 : Nat × TypeId × Array Value} {q1 : Nat × TypeId × Array Value} {q2 : Nat × TypeId × Array Value} {q3 : Nat × TypeId × Array Value} {g : Nat} {t : TypeId} {cs cs' : Array Value} (h : Mem W w (q0 :: q1 :: q2 :: q3 :: (g, t, cs) :: L)) (e : cs = cs') : Mem W w (q0 :: q1 :: q2 :: q3 :: (g, t, cs') :: L) := e ▸ h

theorem Mem.blk5 {q0 : Nat × TypeId × Array Value} {q1 : Nat × TypeId × Array Value} {q2 : Nat × TypeId × Array Value} {q3 : Nat × TypeId × Array Value} {q4 : Nat × TypeId × Array Value} {g : Nat} {t : TypeId} {cs : Array Value} (h : Mem W w (q0 :: q1 :: q2 :: q3 :: q4 :: (g, t, cs) :: L)) : Blk w g t cs := h.blk (g, t, cs) (by simp)
theorem Mem.set5 {q0 : Nat × TypeId × Array Value} {q1 : Nat × TypeId × Array Value} {q2 : Nat × TypeId × Array Value} {q3 : Nat × TypeId × Array Value} {q4 : Nat × TypeId × Array Value} {g i : Nat} {t : TypeId} {cs : Array Value} {v : Value} (h : Mem W w (q0 :: q1 :: q2 :: q3 :: q4 :: (g, t, cs) :: L)) : Mem W (w.setCell ⟨g, i, none⟩ v) (q0 :: q1 :: q2 :: q3 :: q4 :: (g, t, cs.setIfInBounds i v) :: L) := Mem.setAt (L1 := [q0, q1, q2, q3, q4]) h
theorem Mem.grown5 {q0 : Nat × TypeId × Array Value} {q1 : Nat × TypeId × Array Value} {q2 : Nat × TypeId × Array Value} {q3 : Nat × TypeId × Array Value} {q4 : Nat × TypeId × Array Value} {g : Nat} {t : TypeId} {cs cs' : Array Value} (h : Mem W w (q0 :: q1 :: q2 :: q3 :: q4 :: (g, t, cs) :: L)) (hb : Blk w' g t cs') (hg : w.grownBy w' (some g)) : Mem W w' (q0 :: q1 :: q2 :: q3 :: q4 :: (g, t, cs') :: L) := Mem.grownAt (L1 := [q0, q1, q2, q3, q4]) h hb hg
theorem Mem.as5 {q0 : Nat × TypeId × Array Value} {q1 : Nat × TypeId × Array Value} {q2 : Nat × TypeId × Array Value} {q3 : Nat × TypeId × Array Value} {q4 : Nat × TypeId × Array Value} {g : Nat} {t : TypeId} {cs cs' : Array Value} (h : Mem W w (q0 :: q1 :: q2 :: q3 :: q4 :: (g, t, cs) :: L)) (e : cs = cs') : Mem W w (q0 :: q1 :: q2 :: q3 :: q4 :: (g, t, cs') :: L) := e ▸ h
end
end Go.Proofs.Ytbiinlkdgankkaa
