/- put, of both. -/
import Derived.Test.YtkgacehnpdijaaaWireFix
namespace Go.Proofs.Ytkgacehnpdijaaa
set_option linter.unusedVariables false
open Go.RowKit

/-- a part: its bytes, and where they lie -/
structure Pt where
  l : List UInt8
  A : Option Addr
  n : Nat
  c : Nat
def Pt.v (p : Pt) : Value := .slice p.A p.n p.c
/-- the part reads in w, and lies not in the row that is written -/
def Pt.At (w : World) (row : Option Nat) (p : Pt) : Prop := p.l.length = p.n ∧ (0 < p.l.length → ∃ ad, p.A = some ad ∧ ad.block < w.heap.size ∧ some ad.block ≠ row ∧ ∀ j b, p.l[j]? = some b → w.cell? (ad.add j) = some (Bv b))
def cat (L : List Pt) : List UInt8 := L.flatMap (·.l)
theorem cat_succ {L : List Pt} {k : Nat} {p : Pt} (h : L[k]? = some p) : cat (L.take (k + 1)) = cat (L.take k) ++ p.l := by
  unfold cat
  rw [List.take_add_one, h, List.flatMap_append]
  simp
theorem cat_le (L : List Pt) (k : Nat) : (cat (L.take k)).length ≤ (cat L).length := by
  have : cat L = cat (L.take k) ++ cat (L.drop k) := by
    unfold cat
    rw [← List.flatMap_append, List.take_append_drop]
  rw [this, List.length_append]
  omega
theorem Pt.At.grown {p : Pt} {w w' : World} {row : Option Nat} (h : p.At w row) (hg : w.grownBy w' row) : RdB w' w'.heap.size p.A p.l := fun hn => by
  obtain ⟨ad, e, h1, h2, h3⟩ := h.2 hn
  refine ⟨ad, e, Nat.lt_of_lt_of_le h1 hg.size, fun j b hj => ?_⟩
  rw [World.cell?_of_block (hg.block _ (by rw [block_of_add]; exact h1) (by rw [block_of_add]; exact h2))]
  exact h3 j b hj
/-- what is known behind k parts -/
def PutInv (w wr : World) (base : Nat) (row : Option Nat) (xs : List UInt8) (L : List Pt) (k : Nat) (b : Value) : Prop :=
  ∃ A' c', b = .slice A' (xs.length + (cat (L.take k)).length) c' ∧ wr.ownsRow base 5 1 (.slice A' (xs.length + (cat (L.take k)).length) c') (xs.length + (cat (L.take k)).length) ((xs ++ cat (L.take k)).map Bv) ∧ w.grownBy wr row ∧ ((Value.slice A' (xs.length + (cat (L.take k)).length) c').ownBlock = row ∨ ∀ j, (Value.slice A' (xs.length + (cat (L.take k)).length) c').ownBlock = some j → w.heap.size ≤ j)
/-- what put answers -/
def PutRes (w : World) (base : Nat) (row : Option Nat) (l : List UInt8) (e : Ending) (w' : World) : Prop :=
  ∃ A n c, e = .returned (.slice A n c) ∧ l.length = n ∧ w'.ownsRow base 5 1 (.slice A n c) n (l.map Bv) ∧ w.grownBy w' row ∧ n ≤ c ∧ ((Value.slice A n c).ownBlock = row ∨ ∀ j, (Value.slice A n c).ownBlock = some j → w.heap.size ≤ j)
theorem PutInv.res {w wr : World} {base : Nat} {row : Option Nat} {xs : List UInt8} {L : List Pt} {A : Option Addr} {n c : Nat} (h : PutInv w wr base row xs L L.length (.slice A n c)) : PutRes w base row (xs ++ cat L) (.returned (.slice A n c)) wr := by
  obtain ⟨A', c', e, h1, h2, h3⟩ := h
  injection e with e1 e2 e3
  subst e1 e2 e3
  rw [List.take_length, ← List.length_append] at h1 h3
  obtain ⟨A2, c2, e4, h4, _⟩ := own_form h1
  injection e4 with _ _ e5
  subst e5
  exact ⟨A, _, c, by rw [List.take_length, ← List.length_append], rfl, h1, h2, h4, h3⟩
set_option maxHeartbeats 1000000 in
theorem put_any (xs : List UInt8) (A : Option Addr) (nx c : Nat) (L : List Pt) (g base : Nat) (w : World) (hnx : xs.length = nx) (ho : w.ownsRow base 5 1 (.slice A nx c) nx (xs.map Bv)) (hg : g < w.heap.size) (hne : some g ≠ (Value.slice A nx c).ownBlock) (hc : ∀ (i : Nat) (p : Pt), L[i]? = some p → w.cell? ⟨g, i, none⟩ = some p.v)
    (hr : ∀ p ∈ L, p.At w (Value.slice A nx c).ownBlock) (hb : base ≤ w.heap.size) (hx : nx + (cat L).length ≤ 140737488351232) (hn : L.length ≤ 1000) :
    Calls Try.prog 45 #[.slice A nx c, .slice (some ⟨g, 0, none⟩) L.length L.length] w (PutRes w base (Value.slice A nx c).ownBlock (xs ++ cat L)) := by
  subst hnx
  obtain ⟨i0, hi, hz0, hz1, hz2⟩ := info_parts u8info
  obtain ⟨row, hrow⟩ : ∃ r, (Value.slice A xs.length c).ownBlock = r := ⟨_, rfl⟩
  have HS : Hid (PutInv w w base row xs L 0 (.slice A xs.length c)) := ⟨A, c, by simp [cat], by simpa [cat] using ho, World.grownBy.refl _ _, .inl (by simpa [cat] using hrow)⟩
  rw [hrow] at hne hr ⊢
  have HC := hide hc
  have HR := hide hr
  clear ho hc hr hrow
  go_enter Try.func45, Try.ntmps45
  go_wp2_with fail
  go_loopw [0, 9] (fun b i wr => ∃ k : Nat, k ≤ L.length ∧ i = .int .i64 k ∧ PutInv w wr base row xs L k b) (fun _ i _ => L.length - (intOf i).toNat)
  case atStart => exact ⟨0, by omega, rfl, unhide HS⟩
  case round =>
    obtain ⟨k, hk, rfl, A', c', rfl, hown, hgr, hob⟩ := hrel
    have hle := cat_le L k
    have hle2 := cat_le L (k + 1)
    by_cases hlt : k < L.length
    · obtain ⟨p, hp⟩ : ∃ p, L[k]? = some p := ⟨L[k], List.getElem?_eq_getElem hlt⟩
      have hs := cat_succ hp
      have hln : (cat (L.take (k + 1))).length = (cat (L.take k)).length + p.l.length := by rw [hs, List.length_append]
      rw [hln] at hle2
      have HS2 := hide hs
      have cp : wr.cell? ⟨g, k, none⟩ = some (.slice p.A p.n p.c) := (World.cell?_of_block (hgr.block g hg hne)).trans (unhide HC k p hp)
      have HP := hide ((unhide HR p (List.mem_of_getElem? hp)).grown hgr)
      have hpn := (unhide HR p (List.mem_of_getElem? hp)).1
      rw [hpn] at hln hle2
      have HPN := hide hpn
      have HL := hide hln
      have HO := hide hown
      have HG := hide hgr
      have HB := hide hob
      have hsz := hgr.size
      obtain ⟨n, hnn⟩ : ∃ n, xs.length + (cat (L.take k)).length = n := ⟨_, rfl⟩
      rw [hnn] at HO HB
      rw [hnn]
      have hlen : n + p.n ≤ 140737488351232 := by omega
      have HN := hide hnn
      clear hown hgr hob hs hln hp hnn hpn
      go_wp2_with (
        at_builtin
        refine wpList_append_any _ rfl (.tmp 13) (.tmp 14) _ rfl base 5 i0 _ 1 1 Try.underlying31 hi hz0 hz1 hz2 rfl (by omega) _ n _ rfl
          (unhide HO) _ p.A p.n p.c _ rfl (unhide HP).v (by rw [List.length_map, unhide HPN, Nat.mul_one]) oneCell_Bv (by simp only [maxLen]; omega) (by omega) (by omega) ?_
        intro A4 c4 w4 hown4 hg4 hat4 hbel4 hcc4
        have HO4 := hide hown4; have HG4 := hide hg4; have HA4 := hide hat4; clear hown4 hg4 hat4 hbel4)
      have e1 : xs.length + (cat (L.take (k + 1))).length = n + p.n := by rw [unhide HL, ← unhide HN]; omega
      have e2 : (xs ++ cat (L.take (k + 1))).map Bv = (xs ++ cat (L.take k)).map Bv ++ p.l.map Bv := by rw [unhide HS2, ← List.append_assoc, List.map_append]
      refine ⟨⟨k + 1, by omega, by go_num, A4, c4, by rw [e1], by rw [e1, e2]; exact unhide HO4, ?_, ?_⟩, by simp [intOf]; omega⟩
      · refine (unhide HG).andThen (unhide HG4) fun j hj => ?_
        rcases unhide HB with h | h
        · exact .inr (h.symm.trans hj)
        · exact .inl (h j hj)
      · rw [e1]
        rcases unhide HA4 with h | h
        · rw [h]; exact unhide HB
        · right
          intro j hj
          rw [h] at hj
          injection hj with hj
          omega
    · obtain rfl : k = L.length := by omega
      have HI : Hid (PutInv w wr base row xs L L.length (.slice A' (xs.length + (cat (L.take L.length)).length) c')) := ⟨A', c', rfl, hown, hgr, hob⟩
      clear hown hgr hob
      go_wp2_with fail
      go_ret
      exact (unhide HI).res
set_option maxHeartbeats 1000000 in
theorem rput_any (xs : List UInt8) (A : Option Addr) (nx c : Nat) (L : List Pt) (g base : Nat) (w : World) (hnx : xs.length = nx) (ho : w.ownsRow base 5 1 (.slice A nx c) nx (xs.map Bv)) (hg : g < w.heap.size) (hne : some g ≠ (Value.slice A nx c).ownBlock) (hc : ∀ (i : Nat) (p : Pt), L[i]? = some p → w.cell? ⟨g, i, none⟩ = some p.v)
    (hr : ∀ p ∈ L, p.At w (Value.slice A nx c).ownBlock) (hb : base ≤ w.heap.size) (hx : nx + (cat L).length ≤ 140737488351232) (hn : L.length ≤ 1000) :
    Calls Try.prog 51 #[.slice A nx c, .slice (some ⟨g, 0, none⟩) L.length L.length] w (PutRes w base (Value.slice A nx c).ownBlock (xs ++ cat L)) := by
  subst hnx
  obtain ⟨i0, hi, hz0, hz1, hz2⟩ := info_parts u8info
  obtain ⟨row, hrow⟩ : ∃ r, (Value.slice A xs.length c).ownBlock = r := ⟨_, rfl⟩
  have HS : Hid (PutInv w w base row xs L 0 (.slice A xs.length c)) := ⟨A, c, by simp [cat], by simpa [cat] using ho, World.grownBy.refl _ _, .inl (by simpa [cat] using hrow)⟩
  rw [hrow] at hne hr ⊢
  have HC := hide hc
  have HR := hide hr
  clear ho hc hr hrow
  go_enter Try.func51, Try.ntmps51
  go_wp2_with fail
  go_loopw [0, 5] (fun b i wr => ∃ k : Nat, k ≤ L.length ∧ i = .int .i64 k ∧ PutInv w wr base row xs L k b) (fun _ i _ => L.length - (intOf i).toNat)
  case atStart => exact ⟨0, by omega, rfl, unhide HS⟩
  case round =>
    obtain ⟨k, hk, rfl, A', c', rfl, hown, hgr, hob⟩ := hrel
    have hle := cat_le L k
    have hle2 := cat_le L (k + 1)
    by_cases hlt : k < L.length
    · obtain ⟨p, hp⟩ : ∃ p, L[k]? = some p := ⟨L[k], List.getElem?_eq_getElem hlt⟩
      have hs := cat_succ hp
      have hln : (cat (L.take (k + 1))).length = (cat (L.take k)).length + p.l.length := by rw [hs, List.length_append]
      rw [hln] at hle2
      have HS2 := hide hs
      have cp : wr.cell? ⟨g, k, none⟩ = some (.slice p.A p.n p.c) := (World.cell?_of_block (hgr.block g hg hne)).trans (unhide HC k p hp)
      have HP := hide ((unhide HR p (List.mem_of_getElem? hp)).grown hgr)
      have hpn := (unhide HR p (List.mem_of_getElem? hp)).1
      rw [hpn] at hln hle2
      have HPN := hide hpn
      have HL := hide hln
      have HO := hide hown
      have HG := hide hgr
      have HB := hide hob
      have hsz := hgr.size
      obtain ⟨n, hnn⟩ : ∃ n, xs.length + (cat (L.take k)).length = n := ⟨_, rfl⟩
      rw [hnn] at HO HB
      rw [hnn]
      have hlen : n + p.n ≤ 140737488351232 := by omega
      have HN := hide hnn
      clear hown hgr hob hs hln hp hnn hpn
      go_wp2_with (
        at_builtin
        refine wpList_append_any _ rfl (.tmp 12) (.tmp 16) _ rfl base 5 i0 _ 1 1 Try.underlying31 hi hz0 hz1 hz2 rfl (by omega) _ n _ rfl
          (unhide HO) _ p.A p.n p.c _ rfl (unhide HP).v (by rw [List.length_map, unhide HPN, Nat.mul_one]) oneCell_Bv (by simp only [maxLen]; omega) (by omega) (by omega) ?_
        intro A4 c4 w4 hown4 hg4 hat4 hbel4 hcc4
        have HO4 := hide hown4; have HG4 := hide hg4; have HA4 := hide hat4; clear hown4 hg4 hat4 hbel4)
      have e1 : xs.length + (cat (L.take (k + 1))).length = n + p.n := by rw [unhide HL, ← unhide HN]; omega
      have e2 : (xs ++ cat (L.take (k + 1))).map Bv = (xs ++ cat (L.take k)).map Bv ++ p.l.map Bv := by rw [unhide HS2, ← List.append_assoc, List.map_append]
      refine ⟨⟨k + 1, by omega, by go_num, A4, c4, by rw [e1], by rw [e1, e2]; exact unhide HO4, ?_, ?_⟩, by simp [intOf]; omega⟩
      · refine (unhide HG).andThen (unhide HG4) fun j hj => ?_
        rcases unhide HB with h | h
        · exact .inr (h.symm.trans hj)
        · exact .inl (h j hj)
      · rw [e1]
        rcases unhide HA4 with h | h
        · rw [h]; exact unhide HB
        · right
          intro j hj
          rw [h] at hj
          injection hj with hj
          omega
    · obtain rfl : k = L.length := by omega
      have HI : Hid (PutInv w wr base row xs L L.length (.slice A' (xs.length + (cat (L.take L.length)).length) c')) := ⟨A', c', rfl, hown, hgr, hob⟩
      clear hown hgr hob
      go_wp2_with fail
      go_ret
      exact (unhide HI).res
end Go.Proofs.Ytkgacehnpdijaaa
