/- few: shares of not too many versions. -/
import Derived.Test.YtcljendidhfobaaCoStart
namespace Go.Proofs.Ytcljendidhfobaa
set_option linter.unusedVariables false
open Go.RowKit

def fewOne (s : Sq) : Sq := ⟨s.node, s.vs.take 8, s.A, s.c⟩
def fewQ (l : List Sq) : List Sq := (l.take 6).map fewOne
theorem fewQ_len (l : List Sq) : (fewQ l).length ≤ 6 := by simp [fewQ]; omega
theorem take_few_succ {l : List Sq} {k : Nat} {s : Sq} (hs : l[k]? = some s) : (l.take (k + 1)).map fewOne = (l.take k).map fewOne ++ [fewOne s] := by
  rw [List.take_add_one, hs, List.map_append]
  rfl
theorem take_few_len {l : List Sq} {k : Nat} (h : k ≤ l.length) : ((l.take k).map fewOne).length = k := by simp; omega
set_option maxHeartbeats 8000000 in
set_option maxRecDepth 20000 in
theorem few_any (A : Option Addr) (c : Nat) (l : List Sq) (w : World) (h : InShs w w.heap.size A c l) :
    Calls Try.prog 9 #[.slice A l.length c] w fun e w' => ∃ A2 c2, e = .returned (.slice A2 (fewQ l).length c2) ∧ w'.ownsRow w.heap.size 28 2 (.slice A2 (fewQ l).length c2) (fewQ l).length (srow (fewQ l)) ∧ (fewQ l).length ≤ c2 ∧ Below w.heap.size w w' := by
  obtain ⟨j0, hj, hy0, hy1, hy2⟩ := info_parts shinfo
  have hcap := h.cap
  have hroom := h.room
  have HS := hide h.at_
  have HC := hide h.caps
  clear h
  go_enter Try.func9, Try.ntmps9
  go_wp2_with fail
  go_loopw [3, 4] (fun r i wr => ∃ (k : Nat) (A2 : Option Addr) (c2 : Nat), k ≤ l.length ∧ k ≤ 6 ∧ i = .int .i64 k ∧ r = .slice A2 k c2 ∧ wr.ownsRow w.heap.size 28 2 (.slice A2 k c2) k (srow ((l.take k).map fewOne)) ∧ k ≤ c2 ∧ Below w.heap.size w wr) (fun _ i _ => l.length - (intOf i).toNat)
  case atStart => exact ⟨0, none, 0, by omega, by omega, rfl, rfl, own_nil _ _ _ _, by omega, Below.refl _ _⟩
  case round =>
    obtain ⟨k, A2, c2, hk, hk6, rfl, rfl, hown, hcc, hb⟩ := hrel
    have HB := hide hb
    have HO := hide hown
    have hsz := hb.size
    clear hb hown
    by_cases hgo : k < l.length ∧ k < 6
    · obtain ⟨hlt, h6⟩ := hgo
      obtain ⟨s, hs⟩ : ∃ s, l[k]? = some s := ⟨l[k], List.getElem?_eq_getElem hlt⟩
      obtain ⟨ad, hA, _, hadl, c0, c1⟩ := ((unhide HS).new (unhide HB)).at_ hs
      subst hA
      rw [← Addr.add_add] at c1
      have c1' : wr.cell? ⟨(ad.add (k * 2)).block, (ad.add (k * 2)).off + 1, none⟩ = some (.slice s.A s.vs.length s.c) := c1
      have hcp := (unhide HC s (List.mem_of_getElem? hs)).cap
      obtain ⟨N, hN⟩ : ∃ N, (s.vs.take 8).length = N := ⟨_, rfl⟩
      have hN2 : N = min s.vs.length 8 := by rw [← hN, List.length_take]; omega
      have HX := hide (take_few_succ hs)
      obtain ⟨nd, vs, A3, c3⟩ := s
      simp only at c0 c1' hcp hN hN2
      clear hs c1
      have hmin : (if 8 < (vs.length : Int) then 8 else (vs.length : Int)) = (N : Int) := by split <;> omega
      have hNc : (N : Int) ≤ (c3 : Int) := by omega
      have hNc2 : N ≤ c3 := by omega
      have HNN := hide hN
      have HS6 : Hid ((wr.drew.alloc (.cells #[.int .i64 nd, .slice A3 N c3] 28)).ownsRow w.heap.size 28 2 (.slice A2 k c2) k (srow ((l.take k).map fewOne))) := hide ((own_drewN (unhide HO) 1).alloc _)
      have HG6 : Hid (∀ v, Below w.heap.size (wr.drew.alloc (.cells #[.int .i64 nd, .slice A3 N c3] 28)) v → Below w.heap.size w v) := hide (fun v hv => (((unhide HB).trans (below_drewN' (Below.refl _ _) 1)).alloc (by simpa using hsz) _).trans hv)
      clear hN hN2
      go_upto_region 5 with fail
      go_region_law (first
        | (refine step_append_any _ rfl (.tmp 15) (.tmp 35) _ rfl w.heap.size 28 j0 _ 2 32 Try.underlying22 hj hy0 hy1 hy2 rfl (by omega) _ k _ (by rfl) (unhide HS6) _ _ 1 1 _ (by rfl) (RdV.of_own (base := 0) (size := 2) (World.ownsRow_lit wr.drew #[.int .i64 nd, .slice A3 N c3] 1 (Nat.zero_le _) (by simp [maxLen]) rfl)) rfl (by intro u hu; simp at hu; rcases hu with rfl | rfl <;> rfl) (by simp only [maxLen]; omega) (by omega) (by simp; omega) ?_
           intro A7 c7 w7 hown7 hg7 hat7 hbel7 hcc7
           have HO7 := hide hown7; have HB7 := hide (unhide HG6 _ hbel7); clear hown7 hg7 hat7 hbel7))
      all_goals go_wp2_with fail
      all_goals
        refine ⟨⟨k + 1, A7, c7, by omega, by omega, by go_num, rfl, ?_, by omega, unhide HB7⟩, by simp [intOf]; omega⟩
        have e0 : srow ((l.take (k + 1)).map fewOne) = srow ((l.take k).map fewOne) ++ [.int .i64 nd, .slice A3 N c3] := by
          rw [unhide HX, srow_app, ← unhide HNN]
          rfl
        rw [e0]
        exact unhide HO7
    · have hkk : (l.take k).map fewOne = fewQ l ∧ (fewQ l).length = k := by
        have : (fewQ l).length = k := by simp [fewQ]; omega
        refine ⟨?_, this⟩
        unfold fewQ
        rcases Nat.lt_or_ge k 6 with h6 | h6
        · have : k = l.length := by omega
          rw [List.take_of_length_le (by omega), List.take_of_length_le (by omega)]
        · rw [show k = 6 by omega]
      have HK := hide hkk
      rcases Nat.lt_or_ge k l.length with hlt | hlt
      · obtain rfl : k = 6 := by omega
        clear hkk
        go_wp2_with fail
        go_ret
        exact ⟨A2, c2, by rw [(unhide HK).2]; rfl, by rw [(unhide HK).2, ← (unhide HK).1]; exact unhide HO, by rw [(unhide HK).2]; exact hcc, unhide HB⟩
      · obtain rfl : k = l.length := by omega
        clear hkk
        go_wp2_with fail
        go_ret
        exact ⟨A2, c2, by rw [(unhide HK).2]; rfl, by rw [(unhide HK).2, ← (unhide HK).1]; exact unhide HO, by rw [(unhide HK).2]; exact hcc, unhide HB⟩
end Go.Proofs.Ytcljendidhfobaa
