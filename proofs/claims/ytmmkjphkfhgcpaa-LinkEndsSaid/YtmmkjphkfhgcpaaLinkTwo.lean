/- Two ends of a link, the frames on their way, what was sent and came: in memory. -/
import Derived.Test.YtmmkjphkfhgcpaaLinkPlay
namespace Go.Proofs.Ytmmkjphkfhgcpaa
set_option linter.unusedVariables false
open Go.RowKit

/-- a frame on its way: incarnation, number, acknowledgement, body, is it the first end's -/
abbrev Way := Int × Int × Int × Body × Bool
structure TR where
  rA : Option Addr
  rc : Nat
  row : List Way
  tA : Option Addr
  tc : Nat
  sent : Bodies
  cA : Option Addr
  cc : Nat
  came : Bodies
def wayCells (r : List Way) : List Value := r.flatMap fun x => [.int .i64 0, .int .i64 x.1, .int .i64 x.2.1, .int .i64 x.2.2.1, bv x.2.2.2.1, .bool x.2.2.2.2]
theorem wayCells_len : ∀ (r : List Way), (wayCells r).length = r.length * 6
  | [] => rfl
  | x :: r => by
    have := wayCells_len r
    simp only [wayCells, List.flatMap_cons, List.length_append, List.length_cons, List.length_nil] at this ⊢
    omega
theorem wayCells_at : ∀ (r : List Way) (i : Nat) (x : Way), r[i]? = some x → (wayCells r)[i * 6]? = some (.int .i64 0) ∧ (wayCells r)[i * 6 + 1]? = some (.int .i64 x.1) ∧ (wayCells r)[i * 6 + 2]? = some (.int .i64 x.2.1) ∧ (wayCells r)[i * 6 + 3]? = some (.int .i64 x.2.2.1) ∧ (wayCells r)[i * 6 + 4]? = some (bv x.2.2.2.1) ∧ (wayCells r)[i * 6 + 5]? = some (.bool x.2.2.2.2)
  | [], _, _, h => by simp at h
  | y :: r, 0, x, h => by
    simp at h
    subst h
    simp [wayCells]
  | y :: r, i + 1, x, h => by
    have ih := wayCells_at r i x (by simpa using h)
    rw [show (i + 1) * 6 = i * 6 + 6 by omega]
    simpa [wayCells] using ih
theorem wayCells_app (a b : List Way) : wayCells (a ++ b) = wayCells a ++ wayCells b := by simp [wayCells]
def twoCells (pa pb : Nat) (t : TR) : Array Value := #[.pointer (some ⟨pa, 0, none⟩), .pointer (some ⟨pb, 0, none⟩), .slice t.rA t.row.length t.rc, .slice t.tA t.sent.length t.tc, .slice t.cA t.came.length t.cc]
theorem twoAt {w : World} {g : Nat} {ty : TypeId} {pa pb : Nat} {t : TR} (h : Blk w g ty (twoCells pa pb t)) :
    w.cell? ⟨g, 0, none⟩ = some (.pointer (some ⟨pa, 0, none⟩)) ∧ w.cell? ⟨g, 1, none⟩ = some (.pointer (some ⟨pb, 0, none⟩)) ∧ w.cell? ⟨g, 2, none⟩ = some (.slice t.rA t.row.length t.rc) ∧ w.cell? ⟨g, 3, none⟩ = some (.slice t.tA t.sent.length t.tc) ∧ w.cell? ⟨g, 4, none⟩ = some (.slice t.cA t.came.length t.cc) :=
  ⟨h.cell 0, h.cell 1, h.cell 2, h.cell 3, h.cell 4⟩
def rowV (t : TR) : Value := .slice t.rA t.row.length t.rc
def sentV (t : TR) : Value := .slice t.tA t.sent.length t.tc
def cameV (t : TR) : Value := .slice t.cA t.came.length t.cc
structure TAt (w : World) (B pt pa pb : Nat) (t : TR) : Prop where
  blk : Blk w pt 41 (twoCells pa pb t)
  row : w.ownsRow B 67 6 (rowV t) t.row.length (wayCells t.row)
  sent : w.ownsRow B 22 1 (sentV t) t.sent.length (rowOf t.sent)
  came : w.ownsRow B 22 1 (cameV t) t.came.length (rowOf t.came)
  lieR : ∀ x ∈ t.row, Okb w x.2.2.2.1
  lieC : ∀ x ∈ t.came, Okb w x
  sc : ∀ k, (sentV t).ownBlock = some k → (cameV t).ownBlock ≠ some k
  ge : B ≤ pt
def TFoot (pt : Nat) (t : TR) (k : Nat) : Prop := k = pt ∨ (rowV t).ownBlock = some k ∨ (sentV t).ownBlock = some k ∨ (cameV t).ownBlock = some k
section
variable {w w' : World} {B pt pa pb : Nat} {t : TR}
theorem TAt.mem (h : TAt w B pt pa pb t) {k : Nat} (hk : TFoot pt t k) : B ≤ k ∧ k < w.heap.size := by
  rcases hk with rfl | hk | hk | hk
  · exact ⟨h.ge, h.blk.lt⟩
  · exact h.row.lt k hk
  · exact h.sent.lt k hk
  · exact h.came.lt k hk
theorem TAt.only {S : Nat → Prop} (h : TAt w B pt pa pb t) (ho : Only S w w') (hb : By w w') (hs : ∀ k, TFoot pt t k → ¬ S k) : TAt w' B pt pa pb t :=
  ⟨h.blk.only ho (hs _ (.inl rfl)), own_only h.row ho (fun k hk => hs k (.inr (.inl hk))), own_only h.sent ho (fun k hk => hs k (.inr (.inr (.inl hk)))), own_only h.came ho (fun k hk => hs k (.inr (.inr (.inr hk)))), fun x hx => (h.lieR x hx).by hb, fun x hx => (h.lieC x hx).by hb, h.sc, h.ge⟩
theorem TAt.new (h : TAt w B pt pa pb t) (hb : Below w.heap.size w w') : TAt w' B pt pa pb t := h.only (S := fun _ => False) (Only.of_new hb) (By.of_new hb) fun _ _ h => h
theorem TAt.apart (h : TAt w B pt pa pb t) : (rowV t).ownBlock ≠ some pt ∧ (sentV t).ownBlock ≠ some pt ∧ (cameV t).ownBlock ≠ some pt ∧ (∀ k, (rowV t).ownBlock = some k → (sentV t).ownBlock ≠ some k) ∧ (∀ k, (rowV t).ownBlock = some k → (cameV t).ownBlock ≠ some k) := by
  refine ⟨fun e => ?_, fun e => ?_, fun e => ?_, fun k e e2 => ?_, fun k e e2 => ?_⟩
  · obtain ⟨cur, hb⟩ := own_at h.row e
    exact absurd (blk_types h.blk hb) (by decide)
  · obtain ⟨cur, hb⟩ := own_at h.sent e
    exact absurd (blk_types h.blk hb) (by decide)
  · obtain ⟨cur, hb⟩ := own_at h.came e
    exact absurd (blk_types h.blk hb) (by decide)
  · obtain ⟨cur, hb⟩ := own_at h.row e
    obtain ⟨cur2, hb2⟩ := own_at h.sent e2
    exact absurd (blk_types hb hb2) (by decide)
  · obtain ⟨cur, hb⟩ := own_at h.row e
    obtain ⟨cur2, hb2⟩ := own_at h.came e2
    exact absurd (blk_types hb hb2) (by decide)
end
/-- all of it -/
structure TwoSt (w0 w : World) (pt pa pb : Nat) (sa sb : LS) (t : TR) : Prop where
  tt : TAt w w0.heap.size pt pa pb t
  ea : EndAt w pa sa
  eb : EndAt w pb sb
  ab : ∀ k, Foot pa sa k → ¬ Foot pb sb k
  ta : ∀ k, TFoot pt t k → ¬ Foot pa sa k
  tb : ∀ k, TFoot pt t k → ¬ Foot pb sb k
  ma : Mine w0.heap.size pa sa
  mb : Mine w0.heap.size pb sb
  bel : Below w0.heap.size w0 w
  src : ∀ x ∈ t.sent, RdB w w0.heap.size x.2.1 x.1
section
variable {w0 w w' : World} {pt pa pb : Nat} {sa sb sa' sb' : LS} {t t' : TR}
theorem TwoSt.size (h : TwoSt w0 w pt pa pb sa sb t) : w0.heap.size ≤ w.heap.size := h.bel.size
theorem TwoSt.new (h : TwoSt w0 w pt pa pb sa sb t) (hb : Below w.heap.size w w') : TwoSt w0 w' pt pa pb sa sb t :=
  ⟨h.tt.new hb, h.ea.new hb, h.eb.new hb, h.ab, h.ta, h.tb, h.ma, h.mb, h.bel.trans (hb.mono h.size), fun x hx => (h.src x hx).below (hb.mono h.size)⟩
theorem TwoSt.drewN (h : TwoSt w0 w pt pa pb sa sb t) (n : Nat) : TwoSt w0 (w.drewN n) pt pa pb sa sb t := h.new (below_drewN' (Below.refl _ _) n)
theorem TwoSt.drew (h : TwoSt w0 w pt pa pb sa sb t) : TwoSt w0 w.drew pt pa pb sa sb t := h.new (Below.refl _ _).drew
theorem TwoSt.stepA (h : TwoSt w0 w pt pa pb sa sb t) (st : Stepped w w' pa sa sa') : TwoSt w0 w' pt pa pb sa' sb t := by
  obtain ⟨h1, h2⟩ := st.below h.bel h.size h.ma
  refine ⟨h.tt.only st.only st.by_ h.ta, st.at_, h.eb.only st.only st.by_ fun k hk hk' => h.ab k hk' hk, fun k hk hk' => ?_, fun k hk hk' => ?_, h.tb, h2, h.mb, h1, fun x hx => (h.src x hx).only2 st.only h.size h.ma⟩
  · rcases st.foot k hk with h3 | h3
    · exact h.ab k h3 hk'
    · have := h.eb.foot k hk'; omega
  · rcases st.foot k hk' with h3 | h3
    · exact h.ta k hk h3
    · have := (h.tt.mem hk).2; omega
theorem TwoSt.stepB (h : TwoSt w0 w pt pa pb sa sb t) (st : Stepped w w' pb sb sb') : TwoSt w0 w' pt pa pb sa sb' t := by
  obtain ⟨h1, h2⟩ := st.below h.bel h.size h.mb
  refine ⟨h.tt.only st.only st.by_ h.tb, h.ea.only st.only st.by_ h.ab, st.at_, fun k hk hk' => ?_, h.ta, fun k hk hk' => ?_, h.ma, h2, h1, fun x hx => (h.src x hx).only2 st.only h.size h.mb⟩
  · rcases st.foot k hk' with h3 | h3
    · exact h.ab k hk h3
    · have := h.ea.foot k hk; omega
  · rcases st.foot k hk' with h3 | h3
    · exact h.tb k hk h3
    · have := (h.tt.mem hk).2; omega
theorem TwoSt.stepT (h : TwoSt w0 w pt pa pb sa sb t) (ha : TAt w' w0.heap.size pt pa pb t') (ho : Only (TFoot pt t) w w') (hb : By w w') (hf : ∀ k, TFoot pt t' k → TFoot pt t k ∨ w.heap.size ≤ k) (hs : ∀ x ∈ t'.sent, RdB w' w0.heap.size x.2.1 x.1) : TwoSt w0 w' pt pa pb sa sb t' := by
  have hm : ∀ k, TFoot pt t k → w0.heap.size ≤ k := fun k hk => (h.tt.mem hk).1
  refine ⟨ha, h.ea.only ho hb fun k hk hk' => h.ta k hk' hk, h.eb.only ho hb fun k hk hk' => h.tb k hk' hk, h.ab, fun k hk hk' => ?_, fun k hk hk' => ?_, h.ma, h.mb, h.bel.trans (ho.below h.size hm), hs⟩
  · rcases hf k hk with h3 | h3
    · exact h.ta k h3 hk'
    · have := h.ea.foot k hk'; omega
  · rcases hf k hk with h3 | h3
    · exact h.tb k h3 hk'
    · have := h.eb.foot k hk'; omega
theorem By.two {w w' : World} {S : Nat → Prop} (ho : Only S w w') (hs : ∀ k, k < w.heap.size → S k → ∃ ty cur, Blk w k ty cur ∧ ty ≠ 5) : By w w' :=
  By.of_only ho fun k hk hS cs fz e => by
    obtain ⟨ty, cur, hb, hne⟩ := hs k hk hS
    unfold Blk at hb
    rw [e] at hb
    injection hb with hb
    injection hb with _ hb _
    exact hne hb.symm
/-- what stands behind 'x.f = append(x.f, ..)': the world w1, a block laid, the row grown, its header stored -/
theorem pushed {w1 w3 : World} {o : Obj} {v v' : Value} {pt i : Nat} (hg : (w1.alloc o).grownBy w3 v.ownBlock) : Only (fun k => k = pt ∨ v.ownBlock = some k) w1 (w3.setCell ⟨pt, i, none⟩ v') :=
  Only.setCell (S := fun k => k = pt ∨ v.ownBlock = some k) (p := ⟨pt, i, none⟩) (((Only.refl _ w1).alloc o).trans (Only.of_grown hg fun k hk => .inr hk)) (.inl rfl) _
theorem TwoSt.pushRow {w1 w3 : World} {o : Obj} {A : Option Addr} {c m : Nat} {news : List Way} (h : TwoSt w0 w1 pt pa pb sa sb t) (hm : news.length = m) (hown : w3.ownsRow w0.heap.size 67 6 (.slice A (t.row.length + m) c) (t.row.length + m) (wayCells t.row ++ wayCells news))
    (hg : (w1.alloc o).grownBy w3 (rowV t).ownBlock) (hat : (Value.slice A (t.row.length + m) c).ownBlock = (rowV t).ownBlock ∨ (Value.slice A (t.row.length + m) c).ownBlock = some (w1.alloc o).heap.size) (hl : ∀ x ∈ news, Okb w1 x.2.2.2.1) :
    TwoSt w0 (w3.setCell ⟨pt, 2, none⟩ (.slice A (t.row.length + m) c)) pt pa pb sa sb { t with rA := A, rc := c, row := t.row ++ news } := by
  subst hm
  have ap := h.tt.apart
  have ho : Only (fun k => k = pt ∨ (rowV t).ownBlock = some k) w1 (w3.setCell ⟨pt, 2, none⟩ (.slice A (t.row.length + news.length) c)) := pushed hg
  have hb : By w1 (w3.setCell ⟨pt, 2, none⟩ (.slice A (t.row.length + news.length) c)) := By.two ho fun k hk hS => by
    rcases hS with rfl | hS
    · exact ⟨_, _, h.tt.blk, by decide⟩
    · obtain ⟨cur, hb⟩ := own_at h.tt.row hS
      exact ⟨_, _, hb, by decide⟩
  have hl2 : (t.row ++ news).length = t.row.length + news.length := List.length_append
  have e : rowV { t with rA := A, rc := c, row := t.row ++ news } = .slice A (t.row.length + news.length) c := by rw [rowV, hl2]
  have hbk := ((h.tt.blk.alloc o).grown hg (fun e => ap.1 e.symm)).set_ 2 (.slice A (t.row.length + news.length) c)
  have ec : (twoCells pa pb t).setIfInBounds 2 (.slice A (t.row.length + news.length) c) = twoCells pa pb { t with rA := A, rc := c, row := t.row ++ news } := by simp [twoCells]
  rw [ec] at hbk
  have hne : ∀ g, (Value.slice A (t.row.length + news.length) c).ownBlock = some g → g ≠ pt := fun g hg2 e2 => by
    subst e2
    rcases hat with h1 | h1
    · exact ap.1 (h1 ▸ hg2)
    · rw [h1] at hg2
      injection hg2 with hg2
      have := h.tt.blk.lt
      simp at hg2
      omega
  refine h.stepT ⟨hbk, ?_, own_only h.tt.sent ho (fun k hk hS => ?_), own_only h.tt.came ho (fun k hk hS => ?_), fun x hx => ?_, fun x hx => (h.tt.lieC x hx).by hb, h.tt.sc, h.tt.ge⟩ (ho.mono fun k _ hS => hS.elim .inl fun hS => .inr (.inl hS)) hb (fun k hk => ?_) (fun x hx => (h.src x hx).only2 ho h.size (fun k hS => by
    rcases hS with rfl | hS
    · exact h.tt.ge
    · exact (h.tt.row.lt k hS).1))
  · rw [e]
    show (w3.setCell ⟨pt, 2, none⟩ _).ownsRow _ _ 6 _ (t.row ++ news).length (wayCells (t.row ++ news))
    rw [hl2, wayCells_app]
    exact ownsRow_setCell_other hown (fun e2 => hne pt e2 rfl) _
  · rcases hS with rfl | hS
    · exact ap.2.1 hk
    · exact ap.2.2.2.1 k hS hk
  · rcases hS with rfl | hS
    · exact ap.2.2.1 hk
    · exact ap.2.2.2.2 k hS hk
  · rcases List.mem_append.1 hx with hx | hx
    · exact (h.tt.lieR x hx).by hb
    · exact (hl x hx).by hb
  · rcases hk with rfl | hk | hk | hk
    · exact .inl (.inl rfl)
    · rw [e] at hk
      rcases hat with h1 | h1
      · exact .inl (.inr (.inl (h1 ▸ hk)))
      · rw [h1] at hk
        injection hk with hk
        exact .inr (by simp at hk; omega)
    · exact .inl (.inr (.inr (.inl hk)))
    · exact .inl (.inr (.inr (.inr hk)))
theorem TwoSt.pushSent {w1 w3 : World} {o : Obj} {A : Option Addr} {c : Nat} {x : Body} (h : TwoSt w0 w1 pt pa pb sa sb t) (hown : w3.ownsRow w0.heap.size 22 1 (.slice A (t.sent.length + 1) c) (t.sent.length + 1) (rowOf t.sent ++ [bv x]))
    (hg : (w1.alloc o).grownBy w3 (sentV t).ownBlock) (hat : (Value.slice A (t.sent.length + 1) c).ownBlock = (sentV t).ownBlock ∨ (Value.slice A (t.sent.length + 1) c).ownBlock = some (w1.alloc o).heap.size) (hl : RdB w1 w0.heap.size x.2.1 x.1) :
    TwoSt w0 (w3.setCell ⟨pt, 3, none⟩ (.slice A (t.sent.length + 1) c)) pt pa pb sa sb { t with tA := A, tc := c, sent := t.sent ++ [x] } := by
  have ap := h.tt.apart
  have ho : Only (fun k => k = pt ∨ (sentV t).ownBlock = some k) w1 (w3.setCell ⟨pt, 3, none⟩ (.slice A (t.sent.length + 1) c)) := pushed hg
  have hmine : ∀ k, (k = pt ∨ (sentV t).ownBlock = some k) → w0.heap.size ≤ k := fun k hS => by
    rcases hS with rfl | hS
    · exact h.tt.ge
    · exact (h.tt.sent.lt k hS).1
  have hb : By w1 (w3.setCell ⟨pt, 3, none⟩ (.slice A (t.sent.length + 1) c)) := By.two ho fun k hk hS => by
    rcases hS with rfl | hS
    · exact ⟨_, _, h.tt.blk, by decide⟩
    · obtain ⟨cur, hb⟩ := own_at h.tt.sent hS
      exact ⟨_, _, hb, by decide⟩
  have hl2 : (t.sent ++ [x]).length = t.sent.length + 1 := by simp
  have e : sentV { t with tA := A, tc := c, sent := t.sent ++ [x] } = .slice A (t.sent.length + 1) c := by rw [sentV, hl2]
  have hbk := ((h.tt.blk.alloc o).grown hg (fun e => ap.2.1 e.symm)).set_ 3 (.slice A (t.sent.length + 1) c)
  have ec : (twoCells pa pb t).setIfInBounds 3 (.slice A (t.sent.length + 1) c) = twoCells pa pb { t with tA := A, tc := c, sent := t.sent ++ [x] } := by simp [twoCells]
  rw [ec] at hbk
  have hcl : ∀ k, (cameV t).ownBlock = some k → k < w1.heap.size := fun k hk => (h.tt.came.lt k hk).2
  have hne : ∀ g, (Value.slice A (t.sent.length + 1) c).ownBlock = some g → g ≠ pt := fun g hg2 e2 => by
    subst e2
    rcases hat with h1 | h1
    · exact ap.2.1 (h1 ▸ hg2)
    · rw [h1] at hg2
      injection hg2 with hg2
      have := h.tt.blk.lt
      simp at hg2
      omega
  refine h.stepT ⟨hbk, own_only h.tt.row ho (fun k hk hS => ?_), ?_, own_only h.tt.came ho (fun k hk hS => ?_), fun x hx => (h.tt.lieR x hx).by hb, fun x hx => (h.tt.lieC x hx).by hb, fun k hk hk' => ?_, h.tt.ge⟩ (ho.mono fun k _ hS => hS.elim .inl fun hS => .inr (.inr (.inl hS))) hb (fun k hk => ?_) (fun y hy => ?_)
  · rcases hS with rfl | hS
    · exact ap.1 hk
    · exact ap.2.2.2.1 k hk hS
  · rw [e]
    show (w3.setCell ⟨pt, 3, none⟩ _).ownsRow _ _ 1 _ (t.sent ++ [x]).length (rowOf (t.sent ++ [x]))
    rw [hl2, rowOf, List.map_append]
    exact ownsRow_setCell_other hown (fun e2 => hne pt e2 rfl) _
  · rcases hS with rfl | hS
    · exact ap.2.2.1 hk
    · exact h.tt.sc k hS hk
  · rw [e] at hk
    rcases hat with h1 | h1
    · exact h.tt.sc k (h1 ▸ hk) hk'
    · rw [h1] at hk
      injection hk with hk
      have := hcl k hk'
      simp at hk
      omega
  · rcases hk with rfl | hk | hk | hk
    · exact .inl (.inl rfl)
    · exact .inl (.inr (.inl hk))
    · rw [e] at hk
      rcases hat with h1 | h1
      · exact .inl (.inr (.inr (.inl (h1 ▸ hk))))
      · rw [h1] at hk
        injection hk with hk
        exact .inr (by simp at hk; omega)
    · exact .inl (.inr (.inr (.inr hk)))
  · rcases List.mem_append.1 hy with hy | hy
    · exact (h.src y hy).only2 ho h.size hmine
    · obtain rfl := List.mem_singleton.1 hy
      exact hl.only2 ho h.size hmine
/-- bodies behind those that came: no block is laid ahead -/
theorem TwoSt.pushCame {w1 w3 : World} {A : Option Addr} {c : Nat} {q : Bodies} (h : TwoSt w0 w1 pt pa pb sa sb t) (hown : w3.ownsRow w0.heap.size 22 1 (.slice A (t.came.length + q.length) c) (t.came.length + q.length) (rowOf t.came ++ rowOf q))
    (hg : w1.grownBy w3 (cameV t).ownBlock) (hat : (Value.slice A (t.came.length + q.length) c).ownBlock = (cameV t).ownBlock ∨ (Value.slice A (t.came.length + q.length) c).ownBlock = some w1.heap.size) (hl : ∀ x ∈ q, Okb w1 x) :
    TwoSt w0 (w3.setCell ⟨pt, 4, none⟩ (.slice A (t.came.length + q.length) c)) pt pa pb sa sb { t with cA := A, cc := c, came := t.came ++ q } := by
  have ap := h.tt.apart
  have ho : Only (fun k => k = pt ∨ (cameV t).ownBlock = some k) w1 (w3.setCell ⟨pt, 4, none⟩ (.slice A (t.came.length + q.length) c)) := Only.setCell (S := fun k => k = pt ∨ (cameV t).ownBlock = some k) (p := ⟨pt, 4, none⟩) ((Only.refl _ w1).trans (Only.of_grown hg fun k hk => .inr hk)) (.inl rfl) _
  have hb : By w1 (w3.setCell ⟨pt, 4, none⟩ (.slice A (t.came.length + q.length) c)) := By.two ho fun k hk hS => by
    rcases hS with rfl | hS
    · exact ⟨_, _, h.tt.blk, by decide⟩
    · obtain ⟨cur, hb⟩ := own_at h.tt.came hS
      exact ⟨_, _, hb, by decide⟩
  have hmine : ∀ k, (k = pt ∨ (cameV t).ownBlock = some k) → w0.heap.size ≤ k := fun k hS => by
    rcases hS with rfl | hS
    · exact h.tt.ge
    · exact (h.tt.came.lt k hS).1
  have hl2 : (t.came ++ q).length = t.came.length + q.length := List.length_append
  have e : cameV { t with cA := A, cc := c, came := t.came ++ q } = .slice A (t.came.length + q.length) c := by rw [cameV, hl2]
  have hbk := (h.tt.blk.grown hg (fun e => ap.2.2.1 e.symm)).set_ 4 (.slice A (t.came.length + q.length) c)
  have ec : (twoCells pa pb t).setIfInBounds 4 (.slice A (t.came.length + q.length) c) = twoCells pa pb { t with cA := A, cc := c, came := t.came ++ q } := by simp [twoCells]
  rw [ec] at hbk
  have hsl : ∀ k, (sentV t).ownBlock = some k → k < w1.heap.size := fun k hk => (h.tt.sent.lt k hk).2
  have hne : ∀ g, (Value.slice A (t.came.length + q.length) c).ownBlock = some g → g ≠ pt := fun g hg2 e2 => by
    subst e2
    rcases hat with h1 | h1
    · exact ap.2.2.1 (h1 ▸ hg2)
    · rw [h1] at hg2
      injection hg2 with hg2
      have := h.tt.blk.lt
      omega
  refine h.stepT ⟨hbk, own_only h.tt.row ho (fun k hk hS => ?_), own_only h.tt.sent ho (fun k hk hS => ?_), ?_, fun x hx => (h.tt.lieR x hx).by hb, fun x hx => ?_, fun k hk hk' => ?_, h.tt.ge⟩ (ho.mono fun k _ hS => hS.elim .inl fun hS => .inr (.inr (.inr hS))) hb (fun k hk => ?_) (fun y hy => (h.src y hy).only2 ho h.size hmine)
  · rcases hS with rfl | hS
    · exact ap.1 hk
    · exact ap.2.2.2.2 k hk hS
  · rcases hS with rfl | hS
    · exact ap.2.1 hk
    · exact h.tt.sc k hk hS
  · rw [e]
    show (w3.setCell ⟨pt, 4, none⟩ _).ownsRow _ _ 1 _ (t.came ++ q).length (rowOf (t.came ++ q))
    rw [hl2, rowOf, List.map_append]
    exact ownsRow_setCell_other hown (fun e2 => hne pt e2 rfl) _
  · rcases List.mem_append.1 hx with hx | hx
    · exact (h.tt.lieC x hx).by hb
    · exact (hl x hx).by hb
  · rw [e] at hk'
    rcases hat with h1 | h1
    · exact h.tt.sc k hk (h1 ▸ hk')
    · rw [h1] at hk'
      injection hk' with hk'
      have := hsl k hk
      omega
  · rcases hk with rfl | hk | hk | hk
    · exact .inl (.inl rfl)
    · exact .inl (.inr (.inl hk))
    · exact .inl (.inr (.inr (.inl hk)))
    · rw [e] at hk
      rcases hat with h1 | h1
      · exact .inl (.inr (.inr (.inr (h1 ▸ hk))))
      · rw [h1] at hk
        injection hk with hk
        exact .inr (by omega)
/-- a row of its own in the place of the elder one -/
theorem TwoSt.setRow {w1 w3 : World} {A : Option Addr} {c : Nat} {row : List Way} (h : TwoSt w0 w1 pt pa pb sa sb t) (hb1 : Below w1.heap.size w1 w3) (hown : w3.ownsRow w1.heap.size 67 6 (.slice A row.length c) row.length (wayCells row)) (hl : ∀ x ∈ row, Okb w1 x.2.2.2.1) :
    TwoSt w0 (w3.setCell ⟨pt, 2, none⟩ (.slice A row.length c)) pt pa pb sa sb { t with rA := A, rc := c, row := row } := by
  have ap := h.tt.apart
  have hlt := h.tt.blk.lt
  have ho : Only (fun k => k = pt) w1 (w3.setCell ⟨pt, 2, none⟩ (.slice A row.length c)) := Only.setCell (S := fun k => k = pt) (p := ⟨pt, 2, none⟩) (Only.of_new hb1) rfl _
  have hb : By w1 (w3.setCell ⟨pt, 2, none⟩ (.slice A row.length c)) := By.two ho fun k hk hS => by
    subst hS
    exact ⟨_, _, h.tt.blk, by decide⟩
  have hbk := (h.tt.blk.below hb1 hlt).set_ 2 (.slice A row.length c)
  have ec : (twoCells pa pb t).setIfInBounds 2 (.slice A row.length c) = twoCells pa pb { t with rA := A, rc := c, row := row } := by simp [twoCells]
  rw [ec] at hbk
  refine h.stepT ⟨hbk, ?_, own_only h.tt.sent ho (fun k hk hS => ap.2.1 (hS ▸ hk)), own_only h.tt.came ho (fun k hk hS => ap.2.2.1 (hS ▸ hk)), fun x hx => (hl x hx).by hb, fun x hx => (h.tt.lieC x hx).by hb, h.tt.sc, h.tt.ge⟩ (ho.mono fun k _ hS => .inl hS) hb (fun k hk => ?_) (fun x hx => (h.src x hx).only2 ho h.size (fun k hS => hS ▸ h.tt.ge))
  · exact own_more (ownsRow_setCell_other hown (fun e2 => by have := (hown.lt pt e2).1; omega) _) (fun k hk => by have := (hown.lt k hk).1; have := h.size; omega)
  · rcases hk with rfl | hk | hk | hk
    · exact .inl (.inl rfl)
    · exact .inr (hown.lt k hk).1
    · exact .inl (.inr (.inr (.inl hk)))
    · exact .inl (.inr (.inr (.inr hk)))
end
end Go.Proofs.Ytmmkjphkfhgcpaa
