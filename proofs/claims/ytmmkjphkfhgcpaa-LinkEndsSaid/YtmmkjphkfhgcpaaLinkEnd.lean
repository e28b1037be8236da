/- An end of a link in memory, whole; Send of any end. -/
import Derived.Test.YtmmkjphkfhgcpaaLinkOut
import Derived.Test.YtmmkjphkfhgcpaaMapI
namespace Go.Proofs.Ytmmkjphkfhgcpaa
set_option linter.unusedVariables false
open Go.RowKit

/-- blocks of bytes stay -/
def By (w w' : World) : Prop := ∀ (g : Nat) (cs : Array Value) (fz : Nat × Nat), w.heap[g]? = some (.cells cs 5 fz) → w'.heap[g]? = some (.cells cs 5 fz)
theorem By.refl (w : World) : By w w := fun _ _ _ h => h
theorem By.trans {a b c : World} (h : By a b) (k : By b c) : By a c := fun g cs fz hg => k g cs fz (h g cs fz hg)
theorem By.of_new {w w' : World} (h : Below w.heap.size w w') : By w w' := fun g cs fz hg => (h.block g (Array.getElem?_eq_some_iff.1 hg).1).trans hg
theorem By.of_stays {w w' : World} (h : Stays w w') : By w w' := fun g cs fz hg => h g _ hg fun _ _ _ e => by injection e with _ e _; exact e.symm
theorem By.of_only {S : Nat → Prop} {w w' : World} (h : Only S w w') (hs : ∀ k, k < w.heap.size → S k → ∀ cs fz, w.heap[k]? ≠ some (.cells cs 5 fz)) : By w w' := fun g cs fz hg =>
  (h.block g (Array.getElem?_eq_some_iff.1 hg).1 fun hk => hs g (Array.getElem?_eq_some_iff.1 hg).1 hk cs fz hg).trans hg
theorem RdT.by {w w' : World} {A : Option Addr} {l : List UInt8} (h : RdT w A l) (hs : By w w') : RdT w' A l := fun hp => by
  obtain ⟨ad, cs, fz, e, hb, hc⟩ := h hp
  have hb' := hs _ _ _ hb
  exact ⟨ad, cs, fz, e, hb', fun j b hj => (World.cell?_of_block (a := ad.add j) (by rw [block_of_add, hb', hb])).trans (hc j b hj)⟩
abbrev Body := List UInt8 × Option Addr × Nat
def bv (x : Body) : Value := .slice x.2.1 x.1.length x.2.2
def Okb (w : World) (x : Body) : Prop := RdT w x.2.1 x.1 ∧ x.1.length ≤ x.2.2 ∧ x.1.length ≤ 1048576
theorem Okb.by {w w' : World} {x : Body} (h : Okb w x) (hb : By w w') : Okb w' x := ⟨h.1.by hb, h.2⟩
theorem Lie.by {w w' : World} {r : Bodies} (h : Lie w r) (hb : By w w') : Lie w' r := fun x hx => ⟨(h x hx).1.by hb, (h x hx).2⟩
/-- what an end is: incarnation, those that wait (and where), what was sent and got, the map's block and its bound, what is kept -/
structure LS where
  ep : Int
  wv : Value
  r : Bodies
  sent : Int
  got : Int
  m : Nat
  n : Nat
  M : Int → Option Body
def Kpl (w : World) (m n : Nat) (M : Int → Option Body) : Prop := Kp Try.prog 3 (.slice none 0 0) w m n fun a => (M a).map bv
structure EndAt (w : World) (p : Nat) (s : LS) : Prop where
  blk : Blk w p 64 (endCells s.ep s.wv s.sent s.got s.m)
  que : Qu w 22 s.wv s.r.length (rowOf s.r)
  lie : Lie w s.r
  kp : Kpl w s.m s.n s.M
  kept : ∀ a x, s.M a = some x → Okb w x
def Foot (p : Nat) (s : LS) (k : Nat) : Prop := k = p ∨ k = s.m ∨ s.wv.ownBlock = some k
theorem EndAt.only {S : Nat → Prop} {w w' : World} {p : Nat} {s : LS} (h : EndAt w p s) (ho : Only S w w') (hb : By w w') (hs : ∀ k, Foot p s k → ¬ S k) : EndAt w' p s :=
  ⟨h.blk.only ho (hs _ (.inl rfl)), h.que.only ho fun k hk => hs k (.inr (.inr hk)), h.lie.by hb, Kp.only h.kp ho (hs _ (.inr (.inl rfl))), fun a x hx => (h.kept a x hx).by hb⟩
theorem EndAt.new {w w' : World} {p : Nat} {s : LS} (h : EndAt w p s) (hb : Below w.heap.size w w') : EndAt w' p s :=
  h.only (S := fun _ => False) (Only.of_new hb) (By.of_new hb) fun _ _ h => h
theorem EndAt.foot {w : World} {p : Nat} {s : LS} (h : EndAt w p s) (k : Nat) (hk : Foot p s k) : k < w.heap.size := by
  rcases hk with rfl | rfl | hk
  · exact h.blk.lt
  · exact h.kp.lt
  · exact h.que.lt k hk
theorem EndAt.nobytes {w : World} {p : Nat} {s : LS} (h : EndAt w p s) (k : Nat) (hk : Foot p s k) (cs : Array Value) (fz : Nat × Nat) : w.heap[k]? ≠ some (.cells cs 5 fz) := by
  intro e
  rcases hk with rfl | rfl | hk
  · have := h.blk
    unfold Blk at this
    rw [e] at this
    injection this with this
    injection this with _ this _
    exact absurd this (by decide)
  · obtain ⟨es, c, hb⟩ := Kp.blk h.kp
    rw [e] at hb
    injection hb with hb
    cases hb
  · obtain ⟨cur, hb⟩ := h.que.blk k hk
    unfold Blk at hb
    rw [e] at hb
    injection hb with hb
    injection hb with _ hb _
    exact absurd hb (by decide)
theorem EndAt.apart {w : World} {p : Nat} {s : LS} (h : EndAt w p s) : p ≠ s.m ∧ s.wv.ownBlock ≠ some p ∧ s.wv.ownBlock ≠ some s.m := by
  obtain ⟨es, c, hm⟩ := Kp.blk h.kp
  have hb := h.blk
  unfold Blk at hb
  refine ⟨fun e => ?_, fun e => ?_, fun e => ?_⟩
  · rw [e, hm] at hb
    injection hb with hb
    cases hb
  · obtain ⟨cur, hq⟩ := h.que.blk p e
    unfold Blk at hq
    rw [hq] at hb
    injection hb with hb
    injection hb with _ hb _
    exact absurd hb (by decide)
  · obtain ⟨cur, hq⟩ := h.que.blk s.m e
    unfold Blk at hq
    rw [hq] at hm
    injection hm with hm
    cases hm
theorem new_end (ep : Int) (w : World) : Calls Try.prog 10 #[.int .i64 ep] w fun e w' => ∃ p, e = .returned (.pointer (some ⟨p, 0, none⟩)) ∧ EndAt w' p ⟨ep, .slice none 0 0, [], 0, 0, w.heap.size, 0, fun _ => none⟩ ∧ w.heap.size < p ∧ Below w.heap.size w w' := by
  refine (new_any ep w).mono ?_
  rintro _ _ ⟨rfl, rfl⟩
  refine ⟨_, rfl, ⟨?_, Qu.nil _ _, fun x hx => absurd hx (by simp), ?_, fun a x h => by cases h⟩, Nat.lt_succ_self _, ?_⟩
  · have := Blk.new (w.alloc (.map #[] 0)) 64 (endCells ep (.slice none 0 0) 0 0 w.heap.size)
    simpa using this
  · exact (Kp.made w).only (S := fun _ => False) (Only.of_new ((Below.refl _ _).alloc (Nat.le_refl _) _)) (fun h => h)
  · exact ((Below.refl _ _).alloc (Nat.le_refl _) _).alloc (by simp) _

/-- what Send leaves -/
def SentQ (w : World) (p : Nat) (ep sent got : Int) (m n : Nat) (wv : Value) (vs : List Value) (body : List UInt8) (w' : World) : Prop :=
  ∃ A1 c1 Aw cw, Blk w' p 64 (endCells ep (.slice Aw (n + 1) cw) sent got m) ∧ Qu w' 22 (.slice Aw (n + 1) cw) (n + 1) (vs ++ [.slice A1 body.length c1]) ∧
    RdT w' A1 body ∧ body.length ≤ c1 ∧ c1 ≤ 9223372036854775807 ∧ (∀ ad, A1 = some ad → w.heap.size ≤ ad.block) ∧ Only (fun k => k = p ∨ wv.ownBlock = some k) w w' ∧ By w w' ∧
    ((Value.slice Aw (n + 1) cw).ownBlock = wv.ownBlock ∨ ∀ k, (Value.slice Aw (n + 1) cw).ownBlock = some k → w.heap.size ≤ k)

set_option maxHeartbeats 1000000 in
set_option maxRecDepth 20000 in
theorem send_walk (p : Nat) (ep sent got : Int) (Aw : Option Addr) (n cw m : Nat) (vs : List Value) (body : List UInt8) (Ab : Option Addr) (c B : Nat) (w : World)
    (hp : Blk w p 64 (endCells ep (.slice Aw n cw) sent got m)) (hown : Qu w 22 (.slice Aw n cw) n vs) (hn : n < 4096) (hb : body.length ≤ 1048576) (hr : RdB w B Ab body) (hB : B ≤ w.heap.size) :
    Calls Try.prog 11 #[.pointer (some ⟨p, 0, none⟩), .slice Ab body.length c] w fun e w' => e = .returned (.int .i64 0) ∧ SentQ w p ep sent got m n (.slice Aw n cw) vs body w' := by
  obtain ⟨i0, hi, hz0, hz1, hz2⟩ := info_parts slinfo
  have hplt := hp.lt
  have fc := endAt hp
  have ff := hp.frozen 1
  have HP := hide hp
  have HO := hide hown
  have HR : Hid (RdB w.drew B Ab body) := hide hr
  have HC := hide (fun (u : World) (h : RdB u B Ab body) (h2 : B ≤ u.heap.size) => copied_any body Ab c B u h h2 (by omega))
  have HQL := hide (fun k hk => hown.lt k hk)
  have hne : Hid ((Value.slice Aw n cw).ownBlock ≠ some p) := hide fun e => by
    obtain ⟨cur, hq⟩ := hown.blk p e
    unfold Blk at hq hp
    rw [hq] at hp
    injection hp with hp
    injection hp with _ hp _
    exact absurd hp (by decide)
  clear hp hown hr
  go_enter Try.func11, Try.ntmps11
  go_wp2_with fail
  go_region_law (first
    | (go_simp; go_at_call 27; refine (unhide HC _ (unhide HR) hB).mono ?_; rintro _ w2 ⟨A2, c2, rfl, hown2, hbel2, hcc2⟩
       have HP2 := hide ((unhide HP).drew.below hbel2 hplt); have HO2 := hide (Qu.only (w := w.drew) (unhide HO) (S := fun _ => False) ((Only.of_new (w := w.drew) (hbel2)).alloc (.cells #[.slice A2 body.length c2] 22)) (fun _ _ h => h))
       have HT2 := hide (RdT.of_own hown2); have HB2 := hide hbel2; have hcap2 := own_cap hown2; have HA2 := hide (fun ad (e : A2 = some ad) => (hown2.lt ad.block (by rw [e]; rfl)).1); clear hown2 hbel2
       have fc2 := endAt (unhide HP2); have ff2 := (unhide HP2).frozen 1; have fc2a := endAt ((unhide HP2).alloc (.cells #[.slice A2 body.length c2] 22)))
    | (refine step_append_qu _ rfl (.tmp 20) (.tmp 23) _ rfl 22 i0 _ 24 Try.underlying32 hi hz0 hz1 hz2 rfl _ n _ (by rfl) (unhide HO2) _ _ 1 _ (by rfl) (RdV.one w2 _ _ _)
         (by rfl) (by simp only [maxLen]; omega) (by omega) ?_
       intro A3 c3 w3 hown3 hg3 hat3
       have HO3 := hide hown3; have HG3 := hide hg3; have HAT3 := hide hat3
       have HP3 := hide (((unhide HP2).alloc (.cells #[.slice A2 body.length c2] 22)).grown hg3 (fun h => unhide hne h.symm)); clear hown3 hg3 hat3
       have fc3 := endAt (unhide HP3); have ff3 := (unhide HP3).frozen 1))
  all_goals go_wp2_with fail
  all_goals
    go_ret
    have o2 : Only (fun k => k = p ∨ (Value.slice Aw n cw).ownBlock = some k) w w2 := (Only.refl _ w).drew.trans (Only.of_new (unhide HB2))
    have o3 : Only (fun k => k = p ∨ (Value.slice Aw n cw).ownBlock = some k) w w3 := (o2.alloc _).trans (Only.of_grown (unhide HG3) fun k hk => .inr hk)
    have o4 := o3.setCell (p := ⟨p, 1, none⟩) (.inl rfl) (.slice A3 (n + 1) c3)
    have hby2 : By w2 (w3.setCell ⟨p, 1, none⟩ (.slice A3 (n + 1) c3)) := by
      have o5 : Only (fun k => k = p ∨ (Value.slice Aw n cw).ownBlock = some k) w2 (w3.setCell ⟨p, 1, none⟩ (.slice A3 (n + 1) c3)) := ((((Only.refl _ w2).alloc _).trans (Only.of_grown (unhide HG3) fun k hk => .inr hk)).setCell (p := ⟨p, 1, none⟩) (.inl rfl) _)
      refine By.of_only o5 fun k hk hs cs fz e => ?_
      rcases hs with rfl | hs
      · have hp2 := unhide HP2
        unfold Blk at hp2
        rw [e] at hp2
        injection hp2 with hp2
        injection hp2 with _ hp2 _
        exact absurd hp2 (by decide)
      · obtain ⟨cur, hq⟩ := (unhide HO2).blk k hs
        have hq2 : (w2.alloc (.cells #[.slice A2 body.length c2] 22)).heap[k]? = _ := hq
        rw [Below.heap_alloc _ _ _ hk, e] at hq2
        injection hq2 with hq2
        injection hq2 with _ hq2 _
        exact absurd hq2 (by decide)
    have hby : By w (w3.setCell ⟨p, 1, none⟩ (.slice A3 (n + 1) c3)) := (By.of_new (w := w.drew) (unhide HB2)).trans hby2
    refine ⟨rfl, A2, c2, A3, c3, (unhide HP3).set_ 1 _, (unhide HO3).only (S := fun k => k = p) (Only.setCell (S := fun k => k = p) (Only.refl (fun k => k = p) w3) (p := ⟨p, 1, none⟩) rfl _) (fun k hk e => ?_), (unhide HT2).by hby2, hcc2, hcap2, unhide HA2, o4, hby, ?_⟩
    · subst e
      rcases unhide HAT3 with h | h
      · exact unhide hne (h ▸ hk)
      · have := h _ hk; have h2 := (unhide HB2).size; simp at this h2; omega
    · rcases unhide HAT3 with h | h
      · exact .inl h
      · exact .inr fun k hk => by have := h k hk; have h2 := (unhide HB2).size; simp at this h2; omega
end Go.Proofs.Ytmmkjphkfhgcpaa
