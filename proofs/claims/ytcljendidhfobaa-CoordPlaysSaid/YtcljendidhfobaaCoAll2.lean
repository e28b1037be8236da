/- The readings that CoordPlays compares, in one contract each. -/
import Derived.Test.YtcljendidhfobaaCoAll
import Derived.Test.YtcljendidhfobaaCoFew
namespace Go.Proofs.Ytcljendidhfobaa
set_option linter.unusedVariables false
open Go.RowKit

theorem flatS_few (l : List Sq) : (flatS ((fewQ l).map Sq.sh)).length ≤ 48 := by
  have h : ∀ (x : List Sq), (flatS ((x.map fewOne).map Sq.sh)).length ≤ x.length * 8 := by
    intro x
    induction x with
    | nil => simp [flatS]
    | cons a r ih =>
      have e : flatS (((a :: r).map fewOne).map Sq.sh) = a.vs.take 8 ++ flatS ((r.map fewOne).map Sq.sh) := rfl
      rw [e, List.length_append, List.length_take, List.length_cons]
      omega
  have := h (l.take 6)
  rw [List.length_take] at this
  unfold fewQ
  omega
def nodesOf (T : List Et) (tx : Int) : List Int := ((getT T tx).map fun e => e.shs.map (·.1)).getD []
def writesOf (T : List Et) (tx : Int) : List Vr := ((getT T tx).map fun e => flatS e.shs).getD []
theorem nodesOf_some {T : List Et} {tx : Int} {e : Et} (h : getT T tx = some e) : nodesOf T tx = e.shs.map (·.1) := by simp [nodesOf, h]
theorem nodesOf_none {T : List Et} {tx : Int} (h : getT T tx = none) : nodesOf T tx = [] := by simp [nodesOf, h]
theorem writesOf_some {T : List Et} {tx : Int} {e : Et} (h : getT T tx = some e) : writesOf T tx = flatS e.shs := by simp [writesOf, h]
theorem writesOf_none {T : List Et} {tx : Int} (h : getT T tx = none) : writesOf T tx = [] := by simp [writesOf, h]
theorem nodesOf_len {T : List Et} {k : Nat} (he : ∀ e ∈ T, EtOk k e) (tx : Int) : (nodesOf T tx).length ≤ 6 := by
  cases hg : getT T tx with
  | none => rw [nodesOf_none hg]; simp
  | some e => rw [nodesOf_some hg, List.length_map]; exact (he e (getT_mem hg)).shs
theorem writesOf_len {T : List Et} {k : Nat} (he : ∀ e ∈ T, EtOk k e) (tx : Int) : (writesOf T tx).length ≤ 48 := by
  cases hg : getT T tx with
  | none => rw [writesOf_none hg]; simp
  | some e => rw [writesOf_some hg]; exact (he e (getT_mem hg)).fl
/-- a reading: a row of its own, nothing else changed -/
def Read (xs : List Value) (n : Nat) (w w' : World) (r : Ending) : Prop := ∃ A c, r = .returned (.slice A n c) ∧ RdV w' w'.heap.size A xs ∧ Below w.heap.size w w'
theorem Read.none (w : World) : Read [] 0 w w (.returned (.slice none 0 0)) := ⟨_, _, rfl, RdV.nil, Below.refl _ _⟩
section
variable {S : Nat → Prop} {p q k oc : Nat} {oA : Option Addr} {T : List Et} {D : List Dt} {tx : Int} {w : World}
theorem nodes_all (h : TabAt w S p T) (he : ∀ e ∈ T, EtOk k e) (h0 : 0 ≤ tx) (h1 : tx ≤ 18446744073709551615) :
    Calls Try.prog 14 #[.pointer (some ⟨p, 0, none⟩), .int .u64 tx] w fun r w' => Read ((nodesOf T tx).map (Value.int .i64)) (nodesOf T tx).length w w' r := by
  cases hg : getT T tx with
  | none =>
    rw [nodesOf_none hg]
    refine Calls.mono (nodes_none S p T tx w h h0 h1 hg) ?_
    rintro _ _ ⟨rfl, rfl⟩
    exact Read.none _
  | some e =>
    rw [nodesOf_some hg]
    refine Calls.mono (nodes_any S p T tx e w h h0 h1 hg (by have := (he e (getT_mem hg)).shs; omega)) ?_
    rintro _ w' ⟨A, c, rfl, ho, hb⟩
    refine ⟨A, c, by rw [List.length_map], ?_, hb⟩
    have := RdV.of_own ho
    unfold nrow at this
    rw [List.map_map]
    exact this
theorem dnodes_all (h : DocAt w S q oA oc D) (hb : Both T D k) (hk : k ≤ 3000) :
    Calls Try.prog 26 #[.pointer (some ⟨q, 0, none⟩), .int .u64 tx] w fun r w' => Read ((nodesOf T tx).map (Value.int .i64)) (nodesOf T tx).length w w' r := by
  have hDl : D.length ≤ 4000 := by have := hb.len; have := hb.tl; omega
  cases hg : getT T tx with
  | none =>
    rw [nodesOf_none hg]
    refine Calls.mono (dnodes_none S q oA oc D tx w h (hb.none hg) (by omega)) ?_
    rintro _ _ ⟨rfl, rfl⟩
    exact Read.none _
  | some e =>
    rw [nodesOf_some hg]
    obtain ⟨i, d, _, _, ha, hr⟩ := hb.some hg
    have hsl := hr.slen
    have hx := (hb.each e (getT_mem hg)).shs
    refine Calls.mono (dnodes_any S q oA oc D tx i d w h ha (by omega) (by omega)) ?_
    rintro _ w' ⟨A, c, rfl, ho, hbw⟩
    rw [List.length_map, hsl]
    refine ⟨A, c, rfl, ?_, hbw⟩
    have := RdV.of_own ho
    unfold nrow at this
    rw [List.map_map, hr.shs]
    exact this
theorem writes_all (h : TabAt w S p T) (he : ∀ e ∈ T, EtOk k e) (h0 : 0 ≤ tx) (h1 : tx ≤ 18446744073709551615) :
    Calls Try.prog 12 #[.pointer (some ⟨p, 0, none⟩), .int .u64 tx] w fun r w' => Read (vrow (writesOf T tx)) (writesOf T tx).length w w' r := by
  cases hg : getT T tx with
  | none =>
    rw [writesOf_none hg]
    refine Calls.mono (writes_none S p T tx w h h0 h1 hg) ?_
    rintro _ _ ⟨rfl, rfl⟩
    exact Read.none _
  | some e =>
    rw [writesOf_some hg]
    have hx := he e (getT_mem hg)
    refine Calls.mono (writes_any S p T tx e w h h0 h1 hg (by have := hx.shs; omega) (by have := hx.fl; omega)) ?_
    rintro _ w' ⟨A, c, rfl, ho, hb⟩
    exact ⟨A, c, rfl, RdV.of_own ho, hb⟩
theorem dwrites_all (h : DocAt w S q oA oc D) (hb : Both T D k) (hk : k ≤ 3000) :
    Calls Try.prog 27 #[.pointer (some ⟨q, 0, none⟩), .int .u64 tx] w fun r w' => Read (vrow (writesOf T tx)) (writesOf T tx).length w w' r := by
  have hDl : D.length ≤ 4000 := by have := hb.len; have := hb.tl; omega
  cases hg : getT T tx with
  | none =>
    rw [writesOf_none hg]
    refine Calls.mono (dwrites_none S q oA oc D tx w h (hb.none hg) (by omega)) ?_
    rintro _ _ ⟨rfl, rfl⟩
    exact Read.none _
  | some e =>
    rw [writesOf_some hg]
    obtain ⟨i, d, _, _, ha, hr⟩ := hb.some hg
    have hsl := hr.slen
    have hx := hb.each e (getT_mem hg)
    rw [hr.shs]
    refine Calls.mono (dwrites_any S q oA oc D tx i d w h ha (by omega) (by have := hx.shs; omega) (by have := hx.fl; rw [hr.shs] at this; omega)) ?_
    rintro _ w' ⟨A, c, rfl, ho, hbw⟩
    exact ⟨A, c, rfl, RdV.of_own ho, hbw⟩
theorem touches_all (lo hi : ByteArray) (h : TabAt w S p T) (he : ∀ e ∈ T, EtOk k e) :
    Calls Try.prog 28 #[.pointer (some ⟨p, 0, none⟩), .string lo, .string hi] w fun e w' => e = .returned (.bool (touchT lo hi (T.map Et.shs))) ∧ Below w.heap.size w w' :=
  touches_any S p T lo hi w h (fun e hm => ⟨(he e hm).t0, (he e hm).t1⟩) (fun e hm => ⟨by have := (he e hm).shs; omega, by have := (he e hm).fl; omega⟩)
theorem dtouches_all (lo hi : ByteArray) (h : DocAt w S q oA oc D) (hb : Both T D k) (hk : k ≤ 3000) :
    Calls Try.prog 29 #[.pointer (some ⟨q, 0, none⟩), .string lo, .string hi] w fun e w' => e = .returned (.bool (touchT lo hi (T.map Et.shs))) ∧ Below w.heap.size w w' := by
  rw [hb.touch]
  refine dtouches_any S q oA oc D lo hi w h hb.keysD (by have := hb.len; have := hb.tl; omega) fun d hd => ?_
  obtain ⟨i, hi⟩ := List.mem_iff_getElem?.1 hd
  obtain ⟨e, he, hr⟩ := hb.other hi
  have hx := hb.each e (List.mem_of_getElem? he)
  have hsl := hr.slen
  exact ⟨by have := hx.shs; omega, by have := hx.fl; rw [hr.shs] at this; omega⟩
end
end Go.Proofs.Ytcljendidhfobaa
