/- Ends of a link in memory: what calls leave as it was; bytes by the kind of their block. -/
import Derived.Test.YtmmkjphkfhgcpaaLinkCopied
import Derived.Test.YtmmkjphkfhgcpaaAppendStep
import Derived.Deep.RegionHeld3
namespace Go.Proofs.Ytmmkjphkfhgcpaa
set_option linter.unusedVariables false
open Go.RowKit

/-- bytes, and all that is no cells -/
def Kept (o : Obj) : Prop := ∀ (cs : Array Value) (t : TypeId) (fz : Nat × Nat), o = .cells cs t fz → t = 5
def Stays (w w' : World) : Prop := ∀ (g : Nat) (o : Obj), w.heap[g]? = some o → Kept o → w'.heap[g]? = some o
theorem Stays.refl (w : World) : Stays w w := fun _ _ h _ => h
theorem Stays.trans {a b c : World} (h : Stays a b) (k : Stays b c) : Stays a c := fun g o hg ho => k g o (h g o hg ho) ho
theorem Stays.of_below {B : Nat} {w w' : World} (h : Below B w w') (hB : w.heap.size ≤ B) : Stays w w' := fun g o hg _ => (h.block g (Nat.lt_of_lt_of_le (Array.getElem?_eq_some_iff.1 hg).1 hB)).trans hg
theorem Stays.alloc (w : World) (o : Obj) : Stays w (w.alloc o) := Stays.of_below ((Below.refl _ _).alloc (Nat.le_refl _) _) (Nat.le_refl _)
theorem Stays.drew (w : World) : Stays w w.drew := fun _ _ h _ => h
theorem Stays.setCell {w : World} {g i : Nat} {t : TypeId} {cs : Array Value} {v : Value} (h : Blk w g t cs) (ht : t ≠ 5) : Stays w (w.setCell ⟨g, i, none⟩ v) := fun k o hk ho => by
  rcases Nat.decEq k g with hne | rfl
  · exact (Below.heap_setCell _ _ _ _ (fun e => hne e)).trans hk
  · rw [show w.heap[k]? = some (.cells cs t (0, 0)) from h] at hk
    injection hk with hk
    exact absurd (ho cs t (0, 0) hk.symm) ht
theorem Stays.grown {w w' : World} {base n size : Nat} {e : TypeId} {v : Value} {xs : List Value} (hown : w.ownsRow base e size v n xs) (he : e ≠ 5) (hg : w.grownBy w' v.ownBlock) : Stays w w' := fun k o hk ho => by
  have hlt := (Array.getElem?_eq_some_iff.1 hk).1
  refine (hg.block k hlt fun hr => ?_).trans hk
  rcases hown.2 with ⟨rfl, _⟩ | ⟨g', cap, cur, rfl, _, hgg, _⟩
  · simp [Value.ownBlock] at hr
  · simp [Value.ownBlock] at hr
    subst hr
    rw [hgg] at hk
    injection hk with hk
    exact he (ho cur e (0, 0) hk.symm)
/-- bytes that lie in a block of bytes -/
def RdT (w : World) (A : Option Addr) (l : List UInt8) : Prop :=
  0 < l.length → ∃ ad cs fz, A = some ad ∧ w.heap[ad.block]? = some (.cells cs 5 fz) ∧ ∀ (j : Nat) (b : UInt8), l[j]? = some b → w.cell? (ad.add j) = some (Bv b)
theorem RdT.stays {w w' : World} {A : Option Addr} {l : List UInt8} (h : RdT w A l) (hs : Stays w w') : RdT w' A l := fun hp => by
  obtain ⟨ad, cs, fz, e, hb, hc⟩ := h hp
  have hb' := hs _ _ hb (fun _ _ _ e => by injection e with _ e2 _; exact e2.symm)
  exact ⟨ad, cs, fz, e, hb', fun j b hj => (World.cell?_of_block (a := ad.add j) (by rw [block_of_add, hb', hb])).trans (hc j b hj)⟩
theorem RdT.rd {w : World} {A : Option Addr} {l : List UInt8} (h : RdT w A l) : RdB w w.heap.size A l := fun hp => by
  obtain ⟨ad, cs, fz, e, hb, hc⟩ := h hp
  exact ⟨ad, e, (Array.getElem?_eq_some_iff.1 hb).1, hc⟩
theorem RdT.of_own {w : World} {base n c : Nat} {A : Option Addr} {l : List UInt8} (h : w.ownsRow base 5 1 (.slice A n c) n (l.map Bv)) : RdT w A l := fun hp => by
  obtain ⟨ad, e, hlt, hc⟩ := RdB.of_own h hp
  subst e
  rcases h.2 with ⟨h1, h2⟩ | ⟨g', cap, cur, hv, _, hgg, _⟩
  · cases h1
  · injection hv with hv _ _
    injection hv with hv
    subst hv
    exact ⟨_, cur, (0, 0), rfl, hgg, hc⟩
/-- the five cells of an end -/
def endCells (ep : Int) (wv : Value) (sent got : Int) (m : Nat) : Array Value := #[.int .i64 ep, wv, .int .i64 sent, .int .i64 got, .map (some m)]
theorem endAt {w : World} {g : Nat} {t : TypeId} {ep sent got : Int} {wv : Value} {m : Nat} (h : Blk w g t (endCells ep wv sent got m)) :
    w.cell? ⟨g, 0, none⟩ = some (.int .i64 ep) ∧ w.cell? ⟨g, 1, none⟩ = some wv ∧ w.cell? ⟨g, 2, none⟩ = some (.int .i64 sent) ∧ w.cell? ⟨g, 3, none⟩ = some (.int .i64 got) ∧ w.cell? ⟨g, 4, none⟩ = some (.map (some m)) :=
  ⟨h.cell 0, h.cell 1, h.cell 2, h.cell 3, h.cell 4⟩
theorem slinfo : (Try.prog.info? 22).map (fun i => (i.zero, i.size, i.bytes)) = some (some (.slice none 0 0), 1, 24) := by kernel_rfl
end Go.Proofs.Ytmmkjphkfhgcpaa
