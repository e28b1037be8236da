/- Within, Touches (by the program and by the document); told. -/
import Derived.Test.YtcljendidhfobaaCoDRead
import Derived.Test.YtcljendidhfobaaCoShB
import Derived.Test.YtcljendidhfobaaMapR
namespace Go.Proofs.Ytcljendidhfobaa
set_option linter.unusedVariables false
open Go.RowKit

def withB (lo hi key : ByteArray) : Bool := !(Op.bytesLess key.toList lo.toList) && ((hi.toList == []) || Op.bytesLess key.toList hi.toList)
set_option maxHeartbeats 2000000 in
theorem within_any (key lo hi : ByteArray) (w : World) : Calls Try.prog 36 #[.string key, .string lo, .string hi] w fun e w' => e = .returned (.bool (withB lo hi key)) ∧ w = w' := by
  obtain ⟨b, hb⟩ : ∃ b, withB lo hi key = b := ⟨_, rfl⟩
  rw [hb]
  unfold withB at hb
  cases h1 : Op.bytesLess key.toList lo.toList <;> cases h2 : (hi.toList == []) <;> cases h3 : Op.bytesLess key.toList hi.toList
  all_goals
    rw [h1, h2, h3] at hb
    simp only [Bool.not_false, Bool.not_true, Bool.true_and, Bool.false_and, Bool.or_true, Bool.or_false] at hb
    subst hb
    go_enter Try.func36, Try.ntmps36
    go_wp2_with fail
    go_ret
    exact ⟨rfl, rfl⟩
set_option maxHeartbeats 2000000 in
theorem rwithin_any (key lo hi : ByteArray) (w : World) : Calls Try.prog 37 #[.string key, .string lo, .string hi] w fun e w' => e = .returned (.bool (withB lo hi key)) ∧ w = w' := by
  obtain ⟨b, hb⟩ : ∃ b, withB lo hi key = b := ⟨_, rfl⟩
  rw [hb]
  unfold withB at hb
  cases h1 : Op.bytesLess key.toList lo.toList <;> cases h2 : (hi.toList == []) <;> cases h3 : Op.bytesLess key.toList hi.toList
  all_goals
    rw [h1, h2, h3] at hb
    simp only [Bool.not_false, Bool.not_true, Bool.true_and, Bool.false_and, Bool.or_true, Bool.or_false] at hb
    subst hb
    go_enter Try.func37, Try.ntmps37
    go_wp2_with fail
    go_ret
    exact ⟨rfl, rfl⟩
/-- told: the same shares in the document's row -/
def Told (w w' : World) (l : List Sq) (e : Ending) : Prop := ∃ A2 c2, e = .returned (.slice A2 l.length c2) ∧ w'.ownsRow w.heap.size 57 2 (.slice A2 l.length c2) l.length (srow l) ∧ Below w.heap.size w w'
set_option maxHeartbeats 4000000 in
set_option maxRecDepth 20000 in
theorem told_any (F : Nat → Prop) (A : Option Addr) (c : Nat) (l : List Sq) (w : World) (h : ShsAt w F A l) (hl : l.length ≤ 4096) :
    Calls Try.prog 23 #[.slice A l.length c] w fun e w' => Told w w' l e := by
  obtain ⟨j0, hj, hy0, hy1, hy2⟩ := info_parts rshinfo
  have HS := hide h
  clear h
  go_enter Try.func23, Try.ntmps23
  go_wp2_with fail
  go_loopw [3, 8] (fun r i wr => ∃ (k : Nat) (A2 : Option Addr) (c2 : Nat), k ≤ l.length ∧ i = .int .i64 k ∧ r = .slice A2 k c2 ∧ wr.ownsRow w.heap.size 57 2 (.slice A2 k c2) k (srow (l.take k)) ∧ Below w.heap.size w wr) (fun _ i _ => l.length - (intOf i).toNat)
  case atStart => exact ⟨0, none, 0, by omega, rfl, rfl, own_nil _ _ _ _, Below.refl _ _⟩
  case round =>
    obtain ⟨k, A2, c2, hk, rfl, rfl, hown, hb⟩ := hrel
    have HB := hide hb
    have HO := hide hown
    have hsz := hb.size
    clear hb hown
    by_cases hlt : k < l.length
    · obtain ⟨s, hs⟩ : ∃ s, l[k]? = some s := ⟨l[k], List.getElem?_eq_getElem hlt⟩
      obtain ⟨ad, hA, _, hadl, c0, c1⟩ := ((unhide HS).new (unhide HB)).at_ hs
      subst hA
      rw [← Addr.add_add] at c1
      have c1' : wr.cell? ⟨(ad.add (k * 2)).block, (ad.add (k * 2)).off + 1, none⟩ = some (.slice s.A s.vs.length s.c) := c1
      have hsu : srow (l.take (k + 1)) = srow (l.take k) ++ s.cs := by rw [List.take_add_one, hs, srow_app]; simp [srow]
      have HSU := hide hsu
      obtain ⟨nd, vs, A3, c3⟩ := s
      simp only at c0 c1'
      have hsz1 : w.heap.size ≤ (wr.alloc (.cells #[.int .i64 nd, .slice A3 vs.length c3] 28)).heap.size := by simp; omega
      have HO5 := hide ((unhide HO).alloc (.cells #[.int .i64 nd, .slice A3 vs.length c3] 28))
      have HB5 := hide ((unhide HB).alloc hsz (.cells #[.int .i64 nd, .slice A3 vs.length c3] 28))
      have hq5 : Blk (wr.alloc (.cells #[.int .i64 nd, .slice A3 vs.length c3] 28)) wr.heap.size 28 #[.int .i64 nd, .slice A3 vs.length c3] := Blk.new _ _ _
      obtain ⟨w5, hw5⟩ : ∃ u, wr.alloc (.cells #[.int .i64 nd, .slice A3 vs.length c3] 28) = u := ⟨_, rfl⟩
      rw [hw5] at HO5 HB5 hsz1 hq5
      have d0 : w5.cell? ⟨wr.heap.size, 0, none⟩ = some (.int .i64 nd) := hq5.cell 0
      have d1 : w5.cell? ⟨wr.heap.size, 1, none⟩ = some (.slice A3 vs.length c3) := hq5.cell 1
      have hgl5 := hq5.lt
      clear hs c1 hsu hq5
      go_wp2_with (first
        | (at_builtin
           refine wpList_append_any _ rfl (.tmp 12) (.tmp 18) _ rfl w.heap.size 57 j0 _ 2 32 Try.underlying55 hj hy0 hy1 hy2 rfl (by omega) _ k _ rfl ((unhide HO5).alloc _) _ _ 1 1 _ rfl (RdV.of_own (base := 0) (size := 2) (World.ownsRow_lit w5 #[.int .i64 nd, .slice A3 vs.length c3] 1 (Nat.zero_le _) (by simp [maxLen]) rfl)) rfl (by intro u hu; simp at hu; rcases hu with rfl | rfl <;> rfl) (by simp only [maxLen]; omega) (by omega) (by simp; omega) ?_
           intro A7 c7 w7 hown7 hg7 hat7 hbel7 hcc7
           have HO7 := hide hown7
           have HB7 := hide (((unhide HB5).alloc hsz1 _).trans hbel7)
           clear hown7 hg7 hat7 hbel7 hcc7))
      refine ⟨⟨k + 1, A7, c7, by omega, by go_num, rfl, ?_, unhide HB7⟩, by simp [intOf]; omega⟩
      rw [unhide HSU]
      exact unhide HO7
    · obtain rfl : k = l.length := by omega
      have ht : srow (l.take l.length) = srow l := by rw [List.take_length]
      rw [ht] at HO
      clear ht
      go_wp2_with fail
      go_ret
      exact ⟨A2, c2, rfl, unhide HO, unhide HB⟩
def touchV (lo hi : ByteArray) (l : List Vr) : Bool := l.any fun v => withB lo hi v.key
def touchT (lo hi : ByteArray) (l : List (List Sh)) : Bool := l.any fun s => touchV lo hi (flatS s)
/-- the keys of a document's table are apart -/
def KeysD (D : List Dt) : Prop := ∀ (i j : Nat) (a b : Dt), i ≠ j → D[i]? = some a → D[j]? = some b → a.tx ≠ b.tx
theorem KeysD.at_ {D : List Dt} (h : KeysD D) {i : Nat} {d : Dt} (hi : D[i]? = some d) : atD D d.tx i d := ⟨hi, rfl, fun j x hj hx => h j i x d (by omega) hx hi⟩
set_option maxHeartbeats 8000000 in
set_option maxRecDepth 20000 in
theorem dtouches_any (S : Nat → Prop) (q : Nat) (oA : Option Addr) (oc : Nat) (D : List Dt) (lo hi : ByteArray) (w : World) (h : DocAt w S q oA oc D) (hk : KeysD D) (hl : D.length ≤ 4096) (hc : ∀ d ∈ D, d.l.length ≤ 4096 ∧ (flatS d.shs).length ≤ 1000000) :
    Calls Try.prog 29 #[.pointer (some ⟨q, 0, none⟩), .string lo, .string hi] w fun e w' => e = .returned (.bool (touchT lo hi (D.map Dt.shs))) ∧ Below w.heap.size w w' := by
  have fh := h.hdr
  have hql := h.blk.lt
  have HH := hide h; have HK := hide hk; have HC := hide hc
  clear h hk hc
  go_enter Try.func29, Try.ntmps29
  go_wp2_with fail
  go_loopw [7] (fun iv wr => ∃ k : Nat, k ≤ D.length ∧ iv = .int .i64 k ∧ (∀ (j : Nat) (x : Dt), j < k → D[j]? = some x → touchV lo hi (flatS x.shs) = false) ∧ Below w.heap.size w wr) (fun iv _ => D.length - (intOf iv).toNat)
  case atStart => exact ⟨0, by omega, rfl, fun j x hj => by omega, Below.refl _ _⟩
  case round =>
    obtain ⟨k, hk, rfl, hno, hb⟩ := hrel
    have HNO := hide hno; have HB := hide hb
    have hsz := hb.size
    have hh := (unhide HH).new hb
    have fh2 := hh.hdr
    have hql2 := hh.blk.lt
    clear hno hb
    by_cases hlt : k < D.length
    · obtain ⟨d, hd⟩ : ∃ d, D[k]? = some d := ⟨D[k], List.getElem?_eq_getElem hlt⟩
      obtain ⟨g, hA, hgl, c0, _, _, _⟩ := hh.ent hd
      rw [hA] at fh2
      have hdc := unhide HC d (List.mem_of_getElem? hd)
      have HWR := hide (dwrites_any S q oA oc D d.tx k d wr hh ((unhide HK).at_ hd) hl hdc.1 hdc.2)
      have hfl := hdc.2
      have HD := hide hd
      obtain ⟨V, hV⟩ : ∃ V, flatS d.shs = V := ⟨_, rfl⟩
      rw [hV] at HWR hfl
      have HVV := hide hV
      obtain ⟨wo, hwo⟩ : ∃ u, u = wr := ⟨_, rfl⟩
      subst hwo
      clear hd hdc hV hh
      go_wp2_with (first
        | (go_at_call 27; refine (unhide HWR).mono ?_; rintro _ w2 ⟨A2, c2, rfl, ho2, hb2⟩
           have HR2 := hide (RdV.of_own ho2)
           have HB2 := hide ((unhide HB).trans (hb2.mono hsz))
           clear ho2 hb2))
      go_loopw [9] (fun jv wq => ∃ j : Nat, j ≤ V.length ∧ jv = .int .i64 j ∧ (∀ (n : Nat) (x : Vr), n < j → V[n]? = some x → withB lo hi x.key = false) ∧ w2 = wq) (fun jv _ => V.length - (intOf jv).toNat)
      case atStart => exact ⟨0, by omega, rfl, fun j x hj => by omega, rfl⟩
      case round =>
        obtain ⟨j, hj, rfl, hnv, rfl⟩ := hrel
        have HNV := hide hnv
        clear hnv
        by_cases hjl : j < V.length
        · obtain ⟨v, hv⟩ : ∃ v, V[j]? = some v := ⟨V[j], List.getElem?_eq_getElem hjl⟩
          obtain ⟨qd, hA2, _, a0, _, _, _, _, _⟩ := verAt (unhide HR2) hv
          subst hA2
          have HV := hide hv
          have HWT := hide (rwithin_any v.key lo hi w2)
          obtain ⟨b, hb⟩ : ∃ b, withB lo hi v.key = b := ⟨_, rfl⟩
          rw [hb] at HWT
          have HBB := hide hb
          clear hv hb
          cases b with
          | true =>
            go_wp2_with (go_at_call 37; refine (unhide HWT).mono ?_; rintro _ w3 ⟨rfl, rfl⟩)
            go_ret
            refine ⟨?_, unhide HB2⟩
            have : touchT lo hi (D.map Dt.shs) = true := List.any_eq_true.2 ⟨d.shs, List.mem_map.2 ⟨d, List.mem_of_getElem? (unhide HD), rfl⟩, List.any_eq_true.2 ⟨v, by rw [unhide HVV]; exact List.mem_of_getElem? (unhide HV), unhide HBB⟩⟩
            rw [this]
            rfl
          | false =>
            go_wp2_with (go_at_call 37; refine (unhide HWT).mono ?_; rintro _ w3 ⟨rfl, rfl⟩)
            refine ⟨⟨j + 1, by omega, by go_num, fun n x hn hx => ?_, by first | rfl | trivial⟩, by simp [intOf]; omega⟩
            rcases Nat.lt_or_ge n j with h1 | h1
            · exact unhide HNV n x h1 hx
            · obtain rfl : n = j := by omega
              rw [unhide HV] at hx
              injection hx with hx
              subst hx
              exact unhide HBB
        · obtain rfl : j = V.length := by omega
          go_wp2_with fail
          go_roundw
          case rel =>
            refine ⟨k + 1, by omega, by go_num, fun n x hn hx => ?_, unhide HB2⟩
            rcases Nat.lt_or_ge n k with h1 | h1
            · exact unhide HNO n x h1 hx
            · obtain rfl : n = k := by omega
              rw [unhide HD] at hx
              injection hx with hx
              subst hx
              refine List.any_eq_false.2 fun v hv => ?_
              rw [unhide HVV] at hv
              obtain ⟨n, hn2⟩ := List.mem_iff_getElem?.1 hv
              rw [unhide HNV n v (List.getElem?_eq_some_iff.1 hn2).1 hn2]
              decide
          case measure => simp [intOf]; omega
    · obtain rfl : k = D.length := by omega
      clear hh
      go_wp2_with fail
      go_ret
      refine ⟨?_, unhide HB⟩
      have : touchT lo hi (D.map Dt.shs) = false := List.any_eq_false.2 fun s hs => by
        obtain ⟨d, hd, rfl⟩ := List.mem_map.1 hs
        obtain ⟨n, hn⟩ := List.mem_iff_getElem?.1 hd
        rw [unhide HNO n d (List.getElem?_eq_some_iff.1 hn).1 hn]
        decide
      rw [this]
      rfl
end Go.Proofs.Ytcljendidhfobaa
