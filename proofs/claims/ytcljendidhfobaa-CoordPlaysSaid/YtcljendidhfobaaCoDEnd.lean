/- The document's End. -/
import Derived.Test.YtcljendidhfobaaCoRel
namespace Go.Proofs.Ytcljendidhfobaa
set_option linter.unusedVariables false
open Go.RowKit

theorem entinfo : (Try.prog.info? 82).map (fun i => (i.zero, i.size, i.bytes)) = some (some (.agg #[.int .u64 0, .int .u64 0, .slice none 0 0, .slice none 0 0]), 4, 64) := by kernel_rfl
/-- when all have voted, a node that has a share has voted -/
theorem Rel.full {e : Et} {d : Dt} (h : Rel e d) (hd : e.dec = true) {node : Int} (hh : e.has node = true) : ∃ k v, atV d.vts node k v := by
  rcases atV_or d.vts node with hv | hv
  · exact hv
  · exfalso
    have hn := look_none (h.none hv)
    have hl := nodup_len ((e.votes.map (·.1)) ++ [node]) (e.shs.map (·.1)) (by
      rw [List.nodup_append]
      refine ⟨h.keys, by simp, fun a ha b hb => ?_⟩
      simp at hb
      subst hb
      exact fun e => hn (e ▸ ha)) (fun x hx => by
      have hq : e.has x = true := by
        rcases List.mem_append.1 hx with hx | hx
        · obtain ⟨v, hv, rfl⟩ := List.mem_map.1 hx
          exact h.hasv v hv
        · simp at hx
          subst hx
          exact hh
      unfold Et.has at hq
      obtain ⟨s, hs, he⟩ := List.any_eq_true.1 hq
      exact List.mem_map.2 ⟨s, hs, by simpa using he⟩)
    rw [List.length_append, List.length_map, List.length_map, List.length_singleton] at hl
    unfold Et.dec at hd
    have := eq_of_beq hd
    omega
def endV (d : Dt) (k : Nat) (v : Vt) : Dt := { d with vts := d.vts.set k (v.1, v.2.1, true) }
theorem Rel.end_ {e : Et} {d : Dt} (h : Rel e d) {node : Int} {k : Nat} {v : Vt} (hk : atV d.vts node k v) (hn : e.ended.contains node = false) : Rel (endE e node) (endV d k v) := by
  have hkl := (List.getElem?_eq_some_iff.1 hk.1).1
  have hnm : node ∉ e.ended := fun hm => by
    have : e.ended.contains node = true := by simpa using hm
    rw [hn] at this; cases this
  have hvm : (v.1, v.2.1) ∈ d.votes := List.mem_map.2 ⟨v, List.mem_of_getElem? hk.1, rfl⟩
  have hvotes : d.votes = (endV d k v).votes := by
    unfold Dt.votes endV
    apply List.ext_getElem?
    intro j
    rw [List.getElem?_map, List.getElem?_map, List.getElem?_set]
    split
    · rename_i hj; subst hj
      rw [hk.1]
      rfl
    · rfl
  refine ⟨h.tx, h.low, h.shs, h.votes.trans hvotes, fun x hx => ?_, h.keys, ?_, fun x hx => ?_, h.hasv⟩
  · obtain ⟨j, hj⟩ := List.mem_iff_getElem?.1 hx
    rw [show (endV d k v).vts = d.vts.set k (v.1, v.2.1, true) from rfl, List.getElem?_set] at hj
    split at hj
    · rename_i hjk; subst hjk
      injection hj with hj
      subst hj
      show true = (e.ended ++ [node]).contains v.1
      rw [hk.2.1]
      simp
    · rename_i hjk
      have hxn : x.1 ≠ node := fun he => by
        have hkeys := h.keys
        rw [h.votes] at hkeys
        unfold Dt.votes at hkeys
        rw [List.map_map] at hkeys
        have e1 : (d.vts.map ((fun v => v.1) ∘ fun v : Vt => (v.1, v.2.1)))[j]? = Option.some node := by rw [List.getElem?_map, hj, ← he]; rfl
        have e2 : (d.vts.map ((fun v => v.1) ∘ fun v : Vt => (v.1, v.2.1)))[k]? = Option.some node := by rw [List.getElem?_map, hk.1, ← hk.2.1]; rfl
        exact hjk ((List.getElem?_inj (by simpa using hkl) hkeys).1 (e2.trans e1.symm))
      rw [h.ended x (List.mem_of_getElem? hj)]
      show e.ended.contains x.1 = (e.ended ++ [node]).contains x.1
      rw [Bool.eq_iff_iff]
      simp [hxn]
  · show (e.ended ++ [node]).Nodup
    rw [List.nodup_append]
    refine ⟨h.nod, by simp, fun a ha b hb => ?_⟩
    simp at hb
    subst hb
    exact fun e => hnm (e ▸ ha)
  · rcases List.mem_append.1 (show x ∈ e.ended ++ [node] from hx) with hx | hx
    · exact h.sub x hx
    · simp at hx
      subst hx
      show x ∈ e.votes.map (·.1)
      rw [h.votes]
      exact List.mem_map.2 ⟨_, hvm, hk.2.1⟩
/-- all have ended: just when it was the last -/
theorem Rel.all {e : Et} {d' : Dt} {node : Int} (h : Rel (endE e node) d') (hd : e.dec = true) : (∀ v ∈ d'.vts, v.2.2 = true) ↔ lastE e = true := by
  have hdl : e.votes.length = e.shs.length := by unfold Et.dec at hd; have := eq_of_beq hd; omega
  constructor
  · intro ha
    have hl := nodup_len (e.votes.map (·.1)) (e.ended ++ [node]) h.keys (fun x hx => by
      have hx : x ∈ (endE e node).votes.map (·.1) := hx
      rw [h.votes] at hx
      obtain ⟨y, hy, rfl⟩ := List.mem_map.1 hx
      obtain ⟨v, hv, rfl⟩ := List.mem_map.1 hy
      have := ha v hv
      rw [h.ended v hv] at this
      simpa [endE] using this)
    rw [List.length_map, List.length_append, List.length_singleton] at hl
    exact decide_eq_true (by omega)
  · intro hl v hv
    have hl2 : e.shs.length ≤ e.ended.length + 1 := of_decide_eq_true hl
    rw [h.ended v hv]
    rcases hq : (endE e node).ended.contains v.1 with _ | _
    · exfalso
      have hvk : v.1 ∈ (endE e node).votes.map (·.1) := by
        rw [h.votes]
        exact List.mem_map.2 ⟨(v.1, v.2.1), List.mem_map.2 ⟨v, hv, rfl⟩, rfl⟩
      have hn : v.1 ∉ (endE e node).ended := fun hm => by
        have : (endE e node).ended.contains v.1 = true := by simpa using hm
        rw [hq] at this; cases this
      have := nodup_len ((endE e node).ended ++ [v.1]) ((endE e node).votes.map (·.1)) (by
        rw [List.nodup_append]
        refine ⟨h.nod, by simp, fun a ha b hb => ?_⟩
        simp at hb
        subst hb
        exact fun e => hn (e ▸ ha)) (fun x hx => by
        rcases List.mem_append.1 hx with hx | hx
        · exact h.sub x hx
        · simp at hx
          subst hx
          exact hvk)
      rw [List.length_append, List.length_map, List.length_singleton] at this
      have e1 : (endE e node).ended.length = e.ended.length + 1 := by simp [endE]
      have e2 : (endE e node).votes.length = e.votes.length := rfl
      omega
    · rfl
theorem erow_same {D : List Dt} {i : Nat} {d : Dt} (h : D[i]? = some d) (k : Nat) (v : Vt) : erow (D.set i (endV d k v)) = erow D := by
  have hs := erow_set D i d (endV d k v) h rfl rfl rfl
  rw [← hs]
  have hv : (endV d k v).vv = d.vv := by unfold Dt.vv endV; simp
  rw [hv]
  apply List.ext_getElem?
  intro j
  rw [List.getElem?_set]
  split
  · rename_i hj; subst hj
    have hat := erow_at h (j := 3) (by omega)
    rw [hat]
    split
    · rfl
    · rename_i hlt
      rw [List.getElem?_eq_none (by omega)] at hat
      exact hat
  · rfl
/-- a vote's mark is set -/
theorem DocAt.ends {w : World} {S : Nat → Prop} {q oc i vg k : Nat} {oA : Option Addr} {D : List Dt} {d : Dt} {v : Vt} (h : DocAt w S q oA oc D) (hi : D[i]? = some d) (hk : d.vts[k]? = some v) (hvA : d.vA = some ⟨vg, 0, none⟩) :
    DocAt (w.setCell ⟨vg, k * 3 + 2, none⟩ (.bool true)) S q oA oc (D.set i (endV d k v)) ∧ Only S w (w.setCell ⟨vg, k * 3 + 2, none⟩ (.bool true)) := by
  have hdm : d ∈ D := List.mem_of_getElem? hi
  have hob : d.vv.ownBlock = some vg := by unfold Dt.vv; rw [hvA]; rfl
  have ho : Only (fun k => d.vv.ownBlock = some k ∨ (Value.slice oA D.length oc).ownBlock = some k) w (w.setCell ⟨vg, k * 3 + 2, none⟩ (.bool true)) :=
    Only.setCell (S := fun k => d.vv.ownBlock = some k ∨ (Value.slice oA D.length oc).ownBlock = some k) (p := ⟨vg, k * 3 + 2, none⟩) (Only.refl _ w) (.inl hob) _
  have hv := h.vts d hdm
  unfold Dt.vv at hv
  rw [hvA] at hv
  have hv8 := (hv.stored (k * 3 + 2) (.bool true)).1
  rw [vtrow_set d.vts k v hk] at hv8
  have hvv : (endV d k v).vv = d.vv := by unfold Dt.vv endV; simp
  have hp := h.put (d' := endV d k v) hi rfl rfl rfl ho (by
    rw [erow_same hi]
    refine own_only h.row (Only.setCell (S := fun k => k = vg) (p := ⟨vg, k * 3 + 2, none⟩) (Only.refl _ w) rfl _) fun b hb e => ?_
    subst e
    obtain ⟨cur, hb1⟩ := own_blk h.row hb
    obtain ⟨cur2, hb2⟩ := own_blk (h.vts d hdm) hob
    exact absurd (blk_type hb1 hb2) (by decide)) (by
    rw [hvv]
    unfold Dt.vv
    rw [hvA, show (endV d k v).vts = d.vts.set k (v.1, v.2.1, true) from rfl, List.length_set]
    exact hv8) (.inl (by rw [hvv]))
  have hsz : (w.setCell ⟨vg, k * 3 + 2, none⟩ (.bool true)).heap.size = w.heap.size := by simp [World.setCell]
  refine ⟨⟨hp.blk, hp.row, hp.vts, hp.shs, hp.vers, hp.apart, fun b hb => ?_, fun b hb => by rw [hsz]; exact h.lt b hb⟩, Only.setCell (S := S) (p := ⟨vg, k * 3 + 2, none⟩) (Only.refl _ w) (h.fr hdm hob) _⟩
  rcases hp.foot b hb with hb | hb
  · exact hb
  · rw [hsz] at hb; omega
/-- an entry goes: the entries' row is new -/
theorem DocAt.erase {w w' : World} {S : Nat → Prop} {q oc c i : Nat} {oA A : Option Addr} {D : List Dt} (h : DocAt w S q oA oc D) (ho : Only (fun k => k = q) w w') (hb : Blk w' q 64 #[.slice A (D.eraseIdx i).length c])
    (hr : w'.ownsRow w.heap.size 82 4 (.slice A (D.eraseIdx i).length c) (D.eraseIdx i).length (erow (D.eraseIdx i))) : DocAt w' (fun k => S k ∨ (w.heap.size ≤ k ∧ k < w'.heap.size)) q A c (D.eraseIdx i) := by
  have hm : ∀ x ∈ D.eraseIdx i, x ∈ D := fun x hx => List.mem_of_mem_eraseIdx hx
  have hX : ∀ {v : Value} {n e size : Nat} {xs : List Value}, w.ownsRow 0 e size v n xs → e ≠ 64 → ∀ k, v.ownBlock = some k → ¬ k = q := fun hw hne k hk e => by
    subst e
    obtain ⟨cur, hb2⟩ := own_blk hw hk
    exact hne (blk_type hb2 h.blk)
  refine ⟨hb, own_more hr fun _ _ => Nat.zero_le _, fun x hx => own_only (h.vts x (hm x hx)) ho (hX (h.vts x (hm x hx)) (by decide)), fun x hx => own_only (h.shs x (hm x hx)) ho (hX (h.shs x (hm x hx)) (by decide)), fun x hx s hs => own_only (h.vers x (hm x hx) s hs) ho (hX (h.vers x (hm x hx) s hs) (by decide)), fun a b x y hne hx hy => ?_, fun k hk => ?_, fun k hk => ?_⟩
  · rw [List.getElem?_eraseIdx] at hx hy
    refine h.apart (if a < i then a else a + 1) (if b < i then b else b + 1) x y ?_ ?_ ?_
    · split <;> split <;> omega
    · split <;> rename_i hc
      · rw [if_pos hc] at hx; exact hx
      · rw [if_neg hc] at hx; exact hx
    · split <;> rename_i hc
      · rw [if_pos hc] at hy; exact hy
      · rw [if_neg hc] at hy; exact hy
  · rcases hk with rfl | hk | ⟨x, hx, hk⟩
    · exact .inl (h.foot _ (.inl rfl))
    · exact .inr (hr.lt k hk)
    · exact .inl (h.foot _ (.inr (.inr ⟨x, hm x hx, hk⟩)))
  · rcases hk with hk | hk
    · exact Nat.lt_of_lt_of_le (h.lt k hk) ho.size
    · exact hk.2
end Go.Proofs.Ytcljendidhfobaa
