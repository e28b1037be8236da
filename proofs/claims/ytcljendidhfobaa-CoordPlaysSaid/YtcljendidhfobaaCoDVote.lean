/- The document's look, Vote. -/
import Derived.Test.YtcljendidhfobaaCoDRead
namespace Go.Proofs.Ytcljendidhfobaa
set_option linter.unusedVariables false
open Go.RowKit

theorem erow_set : ∀ (D : List Dt) (i : Nat) (d d' : Dt), D[i]? = some d → d'.tx = d.tx → d'.low = d.low → d'.sv = d.sv → (erow D).set (i * 4 + 3) d'.vv = erow (D.set i d')
  | [], i, d, d', h, _, _, _ => by simp at h
  | x :: r, 0, d, d', h, h1, h2, h3 => by
    simp at h
    subst h
    show (x.cs ++ erow r).set 3 d'.vv = d'.cs ++ erow r
    unfold Dt.cs
    rw [h1, h2, h3]
    rfl
  | x :: r, i + 1, d, d', h, h1, h2, h3 => by
    have ih := erow_set r i d d' (by simpa using h) h1 h2 h3
    show (x.cs ++ erow r).set ((i + 1) * 4 + 3) d'.vv = x.cs ++ erow (r.set i d')
    rw [List.set_append_right _ _ (by show 4 ≤ _; omega), ← ih, show (i + 1) * 4 + 3 - x.cs.length = i * 4 + 3 by show (i + 1) * 4 + 3 - 4 = _; omega]
theorem vtrow_set : ∀ (l : List Vt) (k : Nat) (v : Vt), l[k]? = some v → (vtrow l).set (k * 3 + 2) (.bool true) = vtrow (l.set k (v.1, v.2.1, true))
  | [], k, v, h => by simp at h
  | x :: r, 0, v, h => by
    simp at h
    subst h
    rfl
  | x :: r, k + 1, v, h => by
    have ih := vtrow_set r k v (by simpa using h)
    show (([Value.int .i64 x.1, .int .u64 x.2.1, .bool x.2.2]) ++ vtrow r).set ((k + 1) * 3 + 2) (.bool true) = [Value.int .i64 x.1, .int .u64 x.2.1, .bool x.2.2] ++ vtrow (r.set k (v.1, v.2.1, true))
    rw [List.set_append_right _ _ (by show 3 ≤ _; omega), ← ih, show (k + 1) * 3 + 2 - [Value.int .i64 x.1, .int .u64 x.2.1, .bool x.2.2].length = k * 3 + 2 by show (k + 1) * 3 + 2 - 3 = _; omega]
/-- one entry's votes are others: what is written lies in its votes' row, in the row of the entries, or is new -/
theorem DocAt.put {w w' : World} {S : Nat → Prop} {q oc i : Nat} {oA : Option Addr} {D : List Dt} {d d' : Dt} (h : DocAt w S q oA oc D) (hi : D[i]? = some d) (hl : d'.l = d.l) (hA : d'.A = d.A) (hc : d'.c = d.c)
    (ho : Only (fun k => d.vv.ownBlock = some k ∨ (Value.slice oA D.length oc).ownBlock = some k) w w') (hr : w'.ownsRow 0 82 4 (.slice oA D.length oc) D.length (erow (D.set i d'))) (hv : w'.ownsRow 0 86 3 d'.vv d'.vts.length (vtrow d'.vts))
    (hf : d'.vv.ownBlock = d.vv.ownBlock ∨ ∀ k, d'.vv.ownBlock = some k → w.heap.size ≤ k) : DocAt w' (fun k => S k ∨ (w.heap.size ≤ k ∧ k < w'.heap.size)) q oA oc (D.set i d') := by
  have hdm : d ∈ D := List.mem_of_getElem? hi
  have hil := (List.getElem?_eq_some_iff.1 hi).1
  have hX : ∀ {v : Value} {n e size : Nat} {xs : List Value}, w.ownsRow 0 e size v n xs → e ≠ 86 → e ≠ 82 → ∀ k, v.ownBlock = some k → ¬ (d.vv.ownBlock = some k ∨ (Value.slice oA D.length oc).ownBlock = some k) := fun hw h1 h2 k hk hS => by
    obtain ⟨cur, hb⟩ := own_blk hw hk
    rcases hS with hS | hS
    · obtain ⟨cur2, hb2⟩ := own_blk (h.vts d hdm) hS
      exact h1 (blk_type hb hb2)
    · obtain ⟨cur2, hb2⟩ := own_blk h.row hS
      exact h2 (blk_type hb hb2)
  have hmem : ∀ x ∈ D.set i d', x = d' ∨ ∃ j, j ≠ i ∧ D[j]? = some x := fun x hx => by
    obtain ⟨j, hj⟩ := List.mem_iff_getElem?.1 hx
    by_cases hji : j = i
    · subst hji
      rw [List.getElem?_set_self hil] at hj
      injection hj with hj
      exact .inl hj.symm
    · rw [List.getElem?_set_ne (fun e => hji e.symm)] at hj
      exact .inr ⟨j, hji, hj⟩
  have hsv : d'.sv = d.sv := by unfold Dt.sv; rw [hl, hA, hc]
  have hlen : (D.set i d').length = D.length := List.length_set ..
  refine ⟨?_, by rw [hlen]; exact hr, fun x hx => ?_, fun x hx => ?_, fun x hx s hs => ?_, fun j1 j2 a b hne ha hb k hk1 hk2 => ?_, fun k hk => ?_, fun k hk => ?_⟩
  · rw [hlen]
    refine h.blk.only ho fun hS => ?_
    rcases hS with hS | hS
    · obtain ⟨cur, hb⟩ := own_blk (h.vts d hdm) hS
      exact absurd (blk_type hb h.blk) (by decide)
    · obtain ⟨cur, hb⟩ := own_blk h.row hS
      exact absurd (blk_type hb h.blk) (by decide)
  · rcases hmem x hx with rfl | ⟨j, hj, hxj⟩
    · exact hv
    · refine own_only (h.vts x (List.mem_of_getElem? hxj)) ho fun k hk hS => ?_
      rcases hS with hS | hS
      · exact h.apart j i x d hj hxj hi k hk hS
      · obtain ⟨cur, hb⟩ := own_blk h.row hS
        obtain ⟨cur2, hb2⟩ := own_blk (h.vts x (List.mem_of_getElem? hxj)) hk
        exact absurd (blk_type hb hb2) (by decide)
  · rcases hmem x hx with rfl | ⟨j, hj, hxj⟩
    · rw [hsv, hl]
      exact own_only (h.shs d hdm) ho (hX (h.shs d hdm) (by decide) (by decide))
    · have hm := List.mem_of_getElem? hxj
      exact own_only (h.shs x hm) ho (hX (h.shs x hm) (by decide) (by decide))
  · rcases hmem x hx with rfl | ⟨j, hj, hxj⟩
    · rw [hl] at hs
      exact own_only (h.vers d hdm s hs) ho (hX (h.vers d hdm s hs) (by decide) (by decide))
    · have hm := List.mem_of_getElem? hxj
      exact own_only (h.vers x hm s hs) ho (hX (h.vers x hm s hs) (by decide) (by decide))
  · have key : ∀ (j : Nat) (x : Dt), j ≠ i → D[j]? = some x → ∀ k, d'.vv.ownBlock = some k → x.vv.ownBlock ≠ some k := fun j x hj hx k h1 h2 => by
      rcases hf with hf | hf
      · rw [hf] at h1
        exact h.apart i j d x (fun e => hj e.symm) hi hx k h1 h2
      · have h3 := hf k h1
        have h4 := ((h.vts x (List.mem_of_getElem? hx)).lt k h2).2
        omega
    by_cases h1 : j1 = i
    · subst h1
      rw [List.getElem?_set_self hil] at ha
      injection ha with ha
      subst ha
      rw [List.getElem?_set_ne hne] at hb
      exact key j2 b (fun e => hne e.symm) hb k hk1 hk2
    · rw [List.getElem?_set_ne (fun e => h1 e.symm)] at ha
      by_cases h2 : j2 = i
      · subst h2
        rw [List.getElem?_set_self hil] at hb
        injection hb with hb
        subst hb
        exact key j1 a h1 ha k hk2 hk1
      · rw [List.getElem?_set_ne (fun e => h2 e.symm)] at hb
        exact h.apart j1 j2 a b hne ha hb k hk1 hk2
  · rcases hk with rfl | hk | ⟨x, hx, hk⟩
    · exact .inl (h.foot _ (.inl rfl))
    · rw [hlen] at hk
      exact .inl (h.foot _ (.inr (.inl hk)))
    · rcases hmem x hx with rfl | ⟨j, hj, hxj⟩
      · rcases hk with hk | hk | ⟨s, hs, hk⟩
        · rcases hf with hf | hf
          · rw [hf] at hk
            exact .inl (h.foot _ (.inr (.inr ⟨d, hdm, .inl hk⟩)))
          · exact .inr ⟨hf k hk, (hv.lt k hk).2⟩
        · rw [hsv] at hk
          exact .inl (h.foot _ (.inr (.inr ⟨d, hdm, .inr (.inl hk)⟩)))
        · rw [hl] at hs
          exact .inl (h.foot _ (.inr (.inr ⟨d, hdm, .inr (.inr ⟨s, hs, hk⟩)⟩)))
      · exact .inl (h.foot _ (.inr (.inr ⟨x, List.mem_of_getElem? hxj, hk⟩)))
  · rcases hk with hk | hk
    · exact Nat.lt_of_lt_of_le (h.lt k hk) ho.size
    · exact hk.2
/-- has a node a share; where a node's vote stands -/
def hasQ (l : List Sq) (node : Int) : Bool := l.any fun s => s.node == node
theorem hasQ_succ {l : List Sq} {k : Nat} {s : Sq} (node : Int) (h : l[k]? = some s) : hasQ (l.take (k + 1)) node = (hasQ (l.take k) node || (s.node == node)) := by
  unfold hasQ
  rw [List.take_add_one, h, List.any_append]
  simp
def atV (l : List Vt) (node : Int) (k : Nat) (v : Vt) : Prop := l[k]? = some v ∧ v.1 = node ∧ ∀ (j : Nat) (x : Vt), j < k → l[j]? = some x → x.1 ≠ node
def noV (l : List Vt) (node : Int) : Prop := ∀ (j : Nat) (x : Vt), l[j]? = some x → x.1 ≠ node
theorem look_no (S : Nat → Prop) (q : Nat) (oA : Option Addr) (oc : Nat) (D : List Dt) (tx node : Int) (w : World) (h : DocAt w S q oA oc D) (hn : noD D tx) (hl : D.length ≤ 4096) :
    Calls Try.prog 34 #[.pointer (some ⟨q, 0, none⟩), .int .u64 tx, .int .i64 node] w fun e w' => e = .returned (.tuple #[.int .i64 0, .int .i64 0, .int .i64 7]) ∧ w = w' := by
  have HF := hide (rfind_no S q oA oc D tx w h hn hl)
  clear h hn
  go_enter Try.func34, Try.ntmps34
  go_wp2_with (go_at_call 33; refine (unhide HF).mono ?_; rintro _ w2 ⟨rfl, rfl⟩)
  go_ret3
  exact ⟨rfl, rfl⟩
/-- what look answers of an entry that is there -/
def LookR (d : Dt) (i : Nat) (node : Int) (r : Value) : Prop :=
  (hasQ d.l node = false ∧ r = .tuple #[.int .i64 0, .int .i64 0, .int .i64 18]) ∨ (hasQ d.l node = true ∧ ((∃ k v, atV d.vts node k v ∧ r = .tuple #[.int .i64 (i : Int), .int .i64 (k : Int), .int .i64 0]) ∨ (noV d.vts node ∧ r = .tuple #[.int .i64 (i : Int), .int .i64 (-1), .int .i64 0])))
set_option maxHeartbeats 4000000 in
set_option maxRecDepth 20000 in
theorem look_any (S : Nat → Prop) (q : Nat) (oA : Option Addr) (oc : Nat) (D : List Dt) (tx node : Int) (i : Nat) (d : Dt) (w : World) (h : DocAt w S q oA oc D) (hn : atD D tx i d) (hl : D.length ≤ 4096) (hc : d.l.length ≤ 4096) (hv : d.vts.length ≤ 4096) :
    Calls Try.prog 34 #[.pointer (some ⟨q, 0, none⟩), .int .u64 tx, .int .i64 node] w fun e w' => (∃ r, e = .returned r ∧ LookR d i node r) ∧ w = w' := by
  have HF := hide (rfind_yes S q oA oc D tx i d w h hn hl)
  have hdi := hn.1
  have hdm : d ∈ D := List.mem_of_getElem? hdi
  have hil := (List.getElem?_eq_some_iff.1 hdi).1
  have HDM := hide hdm
  have HH := hide h
  have fh := h.hdr
  have hql := h.blk.lt
  obtain ⟨g, hA, hgl, c0, c1, c2, c3⟩ := h.ent hdi
  subst hA
  clear h hn hdi hdm
  go_enter Try.func34, Try.ntmps34
  go_wp2_with (go_at_call 33; refine (unhide HF).mono ?_; rintro _ w2 ⟨rfl, rfl⟩)
  go_loopw [10, 11] (fun bv jv wr => ∃ k : Nat, k ≤ d.l.length ∧ jv = .int .i64 k ∧ bv = .bool (hasQ (d.l.take k) node) ∧ w = wr) (fun _ jv _ => d.l.length - (intOf jv).toNat)
  case atStart => exact ⟨0, by omega, rfl, rfl, rfl⟩
  case round =>
    obtain ⟨k, hk, rfl, rfl, rfl⟩ := hrel
    by_cases hlt : k < d.l.length
    · obtain ⟨s, hs⟩ : ∃ s, d.l[k]? = some s := ⟨d.l[k], List.getElem?_eq_getElem hlt⟩
      obtain ⟨sg, hsA, hsgl, s0, s1⟩ := (unhide HH).share (unhide HDM) hs
      rw [hsA] at c2
      have hsu := hasQ_succ node hs
      have HSU := hide hsu
      obtain ⟨nd, vs, A3, c3'⟩ := s
      simp only at s0 s1 HSU
      obtain ⟨b, hb⟩ : ∃ b, hasQ (d.l.take k) node = b := ⟨_, rfl⟩
      rw [hb] at HSU ⊢
      clear hs hsu hb
      cases b with
      | true =>
        go_wp2_with fail
        go_roundw
        case rel => exact ⟨k + 1, by omega, by go_num, by rw [unhide HSU]; rfl, by first | rfl | trivial⟩
        case measure => simp [intOf]; omega
      | false =>
        go_wp2_with fail
        go_roundw
        case rel => exact ⟨k + 1, by omega, by go_num, by rw [unhide HSU]; rfl, by first | rfl | trivial⟩
        case measure => simp [intOf]; omega
    · obtain rfl : k = d.l.length := by omega
      have ht : hasQ (d.l.take d.l.length) node = hasQ d.l node := by rw [List.take_length]
      rw [ht]
      clear ht
      cases hb : hasQ d.l node with
      | false =>
        have HB := hide hb
        clear hb
        go_wp2_with fail
        go_ret3
        exact ⟨⟨_, rfl, .inl ⟨unhide HB, rfl⟩⟩, rfl⟩
      | true =>
        have HB := hide hb
        clear hb
        go_wp2_with fail
        go_loopw [12] (fun jv wr => ∃ k : Nat, k ≤ d.vts.length ∧ jv = .int .i64 k ∧ (∀ (j : Nat) (x : Vt), j < k → d.vts[j]? = some x → x.1 ≠ node) ∧ w = wr) (fun jv _ => d.vts.length - (intOf jv).toNat)
        case atStart => exact ⟨0, by omega, rfl, fun j x hj => by omega, rfl⟩
        case round =>
          obtain ⟨k, hk, rfl, hno, rfl⟩ := hrel
          have HNO := hide hno
          clear hno
          by_cases hlt2 : k < d.vts.length
          · obtain ⟨v, hv'⟩ : ∃ v, d.vts[k]? = some v := ⟨d.vts[k], List.getElem?_eq_getElem hlt2⟩
            obtain ⟨vg, hvA, hvgl, v0, v1, v2⟩ := (unhide HH).vote (unhide HDM) hv'
            rw [hvA] at c3
            have HV := hide hv'
            clear hv'
            by_cases he : v.1 = node
            · have g1 : (v.1 == node) = true := beq_iff_eq.2 he
              have HE := hide he
              clear he
              go_wp2_with fail
              go_ret3
              exact ⟨⟨_, rfl, .inr ⟨unhide HB, .inl ⟨k, v, ⟨unhide HV, unhide HE, unhide HNO⟩, rfl⟩⟩⟩, rfl⟩
            · have g1 : (v.1 == node) = false := beq_eq_false_iff_ne.2 he
              have HE := hide he
              clear he
              go_wp2_with fail
              go_roundw
              case rel =>
                refine ⟨k + 1, by omega, by go_num, fun j x hj hx => ?_, by first | rfl | trivial⟩
                rcases Nat.lt_or_ge j k with h1 | h1
                · exact unhide HNO j x h1 hx
                · obtain rfl : j = k := by omega
                  rw [unhide HV] at hx
                  injection hx with hx
                  subst hx
                  exact unhide HE
              case measure => simp [intOf]; omega
          · obtain rfl : k = d.vts.length := by omega
            go_wp2_with fail
            go_ret3
            exact ⟨⟨_, rfl, .inr ⟨unhide HB, .inr ⟨fun j x hx => unhide HNO j x (List.getElem?_eq_some_iff.1 hx).1 hx, rfl⟩⟩⟩, rfl⟩
end Go.Proofs.Ytcljendidhfobaa
