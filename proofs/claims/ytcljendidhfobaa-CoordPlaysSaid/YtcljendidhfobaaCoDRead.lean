/- The document's Writes, Nodes, Decided, look. -/
import Derived.Test.YtcljendidhfobaaCoDoc
namespace Go.Proofs.Ytcljendidhfobaa
set_option linter.unusedVariables false
open Go.RowKit

set_option maxHeartbeats 2000000 in
theorem dwrites_none (S : Nat → Prop) (q : Nat) (oA : Option Addr) (oc : Nat) (D : List Dt) (tx : Int) (w : World) (h : DocAt w S q oA oc D) (hn : noD D tx) (hl : D.length ≤ 4096) :
    Calls Try.prog 27 #[.pointer (some ⟨q, 0, none⟩), .int .u64 tx] w fun e w' => e = .returned (.slice none 0 0) ∧ w = w' := by
  have HF := hide (rfind_no S q oA oc D tx w h hn hl)
  clear h hn
  go_enter Try.func27, Try.ntmps27
  go_wp2_with (go_at_call 33; refine (unhide HF).mono ?_; rintro _ w2 ⟨rfl, rfl⟩)
  go_ret
  exact ⟨rfl, rfl⟩
set_option maxHeartbeats 2000000 in
theorem dnodes_none (S : Nat → Prop) (q : Nat) (oA : Option Addr) (oc : Nat) (D : List Dt) (tx : Int) (w : World) (h : DocAt w S q oA oc D) (hn : noD D tx) (hl : D.length ≤ 4096) :
    Calls Try.prog 26 #[.pointer (some ⟨q, 0, none⟩), .int .u64 tx] w fun e w' => e = .returned (.slice none 0 0) ∧ w = w' := by
  have HF := hide (rfind_no S q oA oc D tx w h hn hl)
  clear h hn
  go_enter Try.func26, Try.ntmps26
  go_wp2_with (go_at_call 33; refine (unhide HF).mono ?_; rintro _ w2 ⟨rfl, rfl⟩)
  go_ret
  exact ⟨rfl, rfl⟩
set_option maxHeartbeats 4000000 in
set_option maxRecDepth 20000 in
theorem dwrites_any (S : Nat → Prop) (q : Nat) (oA : Option Addr) (oc : Nat) (D : List Dt) (tx : Int) (i : Nat) (d : Dt) (w : World) (h : DocAt w S q oA oc D) (hn : atD D tx i d) (hl : D.length ≤ 4096) (hc : d.l.length ≤ 4096) (hf : (flatS d.shs).length ≤ 1000000) :
    Calls Try.prog 27 #[.pointer (some ⟨q, 0, none⟩), .int .u64 tx] w fun e w' => ∃ A c, e = .returned (.slice A (flatS d.shs).length c) ∧ w'.ownsRow w.heap.size 33 6 (.slice A (flatS d.shs).length c) (flatS d.shs).length (vrow (flatS d.shs)) ∧ Below w.heap.size w w' := by
  obtain ⟨i0, hi, hz0, hz1, hz2⟩ := info_parts verinfo
  have HF := hide (rfind_yes S q oA oc D tx i d w h hn hl)
  have hdi := hn.1
  have hdm : d ∈ D := List.mem_of_getElem? hdi
  have hil := (List.getElem?_eq_some_iff.1 hdi).1
  have HDI := hide hdi; have HDM := hide hdm
  have HH := hide h
  obtain ⟨g, hA, _⟩ := h.ent hdi
  subst hA
  have hlen : d.shs.length = d.l.length := by simp [Dt.shs]
  obtain ⟨V, hV⟩ : ∃ V, d.shs = V := ⟨_, rfl⟩
  have HV := hide hV
  rw [hV] at hf hlen ⊢
  clear h hn hdi hdm hV
  go_enter Try.func27, Try.ntmps27
  go_wp2_with (go_at_call 33; refine (unhide HF).mono ?_; rintro _ w2 ⟨rfl, rfl⟩)
  go_loopw [5, 7] (fun o jv wr => ∃ (k : Nat) (A : Option Addr) (c : Nat), k ≤ d.l.length ∧ jv = .int .i64 k ∧ o = .slice A (flatS (V.take k)).length c ∧ wr.ownsRow w.heap.size 33 6 (.slice A (flatS (V.take k)).length c) (flatS (V.take k)).length (vrow (flatS (V.take k))) ∧ Below w.heap.size w wr) (fun _ jv _ => d.l.length - (intOf jv).toNat)
  case atStart => exact ⟨0, none, 0, by omega, rfl, rfl, own_nil _ _ _ _, Below.refl _ _⟩
  case round =>
    obtain ⟨k, A, c, hk, rfl, rfl, hown, hb⟩ := hrel
    have HB := hide hb
    have HO := hide hown
    have hsz := hb.size
    have hle := flatS_le V k
    have hle2 := flatS_le V (k + 1)
    have hh := (unhide HH).new hb
    have fh := hh.hdr
    have hql := hh.blk.lt
    obtain ⟨g2, hA, hgl, c0, c1, c2, c3⟩ := hh.ent (unhide HDI)
    injection hA with hA
    injection hA with hA _
    subst hA
    clear hb hown
    by_cases hlt : k < d.l.length
    · obtain ⟨s, hs⟩ : ∃ s, d.l[k]? = some s := ⟨d.l[k], List.getElem?_eq_getElem hlt⟩
      have hsh : V[k]? = some (s.node, s.vs) := by rw [← unhide HV]; unfold Dt.shs; rw [List.getElem?_map, hs]; rfl
      have hsucc := flatS_succ hsh
      obtain ⟨sg, hsA, hsgl, s0, s1⟩ := hh.share (unhide HDM) hs
      rw [hsA] at c2
      have HVV := hide (RdV.of_own (hh.vers d (unhide HDM) s (List.mem_of_getElem? hs)))
      have hln : (flatS (V.take (k + 1))).length = (flatS (V.take k)).length + s.vs.length := by rw [hsucc, List.length_append]
      have HSU := hide hsucc; have HLN := hide hln
      rw [hln] at hle2
      obtain ⟨nd, vs, A3, c3'⟩ := s
      simp only at s0 s1 HVV HSU hln HLN hle2
      clear hs hsh hsucc hln hh
      go_wp2_with (first
        | (at_builtin
           refine wpList_append_any _ rfl (.tmp 26) (.tmp 38) _ rfl w.heap.size 33 i0 _ 6 64 Try.underlying26 hi hz0 hz1 hz2 rfl (by omega) _ (flatS (V.take k)).length _ rfl (unhide HO) _ A3 vs.length c3' _ rfl (unhide HVV) (vrow_len _) vrow_one (by simp only [maxLen]; omega) (by omega) hsz ?_
           intro A7 c7 w7 hown7 hg7 hat7 hbel7 hcc7
           have HO7 := hide hown7
           have HB7 := hide ((unhide HB).trans hbel7)
           clear hown7 hg7 hat7 hbel7 hcc7))
      go_roundw
      case rel =>
        refine ⟨k + 1, A7, c7, by omega, by go_num, by rw [unhide HLN], ?_, unhide HB7⟩
        rw [unhide HLN, unhide HSU, vrow_app]
        exact unhide HO7
      case measure => simp [intOf]; omega
    · obtain rfl : k = d.l.length := by omega
      have ht : flatS (V.take d.l.length) = flatS V := by rw [← hlen, List.take_length]
      rw [ht] at HO ⊢
      clear ht hh
      go_wp2_with fail
      go_ret
      exact ⟨A, c, rfl, unhide HO, unhide HB⟩
set_option maxHeartbeats 4000000 in
set_option maxRecDepth 20000 in
theorem dnodes_any (S : Nat → Prop) (q : Nat) (oA : Option Addr) (oc : Nat) (D : List Dt) (tx : Int) (i : Nat) (d : Dt) (w : World) (h : DocAt w S q oA oc D) (hn : atD D tx i d) (hl : D.length ≤ 4096) (hc : d.l.length ≤ 4096) :
    Calls Try.prog 26 #[.pointer (some ⟨q, 0, none⟩), .int .u64 tx] w fun e w' => ∃ A c, e = .returned (.slice A d.l.length c) ∧ w'.ownsRow w.heap.size 3 1 (.slice A d.l.length c) d.l.length (nrow d.shs) ∧ Below w.heap.size w w' := by
  obtain ⟨i0, hi, hz0, hz1, hz2⟩ := info_parts intinfo
  have HF := hide (rfind_yes S q oA oc D tx i d w h hn hl)
  have hdi := hn.1
  have hdm : d ∈ D := List.mem_of_getElem? hdi
  have hil := (List.getElem?_eq_some_iff.1 hdi).1
  have HDI := hide hdi; have HDM := hide hdm
  have HH := hide h
  obtain ⟨g, hA, _⟩ := h.ent hdi
  subst hA
  have hlen : d.shs.length = d.l.length := by simp [Dt.shs]
  obtain ⟨V, hV⟩ : ∃ V, d.shs = V := ⟨_, rfl⟩
  have HV := hide hV
  rw [hV] at hlen ⊢
  clear h hn hdi hdm hV
  go_enter Try.func26, Try.ntmps26
  go_wp2_with (go_at_call 33; refine (unhide HF).mono ?_; rintro _ w2 ⟨rfl, rfl⟩)
  go_loopw [5, 7] (fun o jv wr => ∃ (k : Nat) (A : Option Addr) (c : Nat), k ≤ d.l.length ∧ jv = .int .i64 k ∧ o = .slice A k c ∧ wr.ownsRow w.heap.size 3 1 (.slice A k c) k (nrow (V.take k)) ∧ Below w.heap.size w wr) (fun _ jv _ => d.l.length - (intOf jv).toNat)
  case atStart => exact ⟨0, none, 0, by omega, rfl, rfl, own_nil _ _ _ _, Below.refl _ _⟩
  case round =>
    obtain ⟨k, A, c, hk, rfl, rfl, hown, hb⟩ := hrel
    have HB := hide hb
    have HO := hide hown
    have hsz := hb.size
    have hh := (unhide HH).new hb
    have fh := hh.hdr
    have hql := hh.blk.lt
    obtain ⟨g2, hA, hgl, c0, c1, c2, c3⟩ := hh.ent (unhide HDI)
    injection hA with hA
    injection hA with hA _
    subst hA
    clear hb hown
    by_cases hlt : k < d.l.length
    · obtain ⟨s, hs⟩ : ∃ s, d.l[k]? = some s := ⟨d.l[k], List.getElem?_eq_getElem hlt⟩
      have hsh : V[k]? = some (s.node, s.vs) := by rw [← unhide HV]; unfold Dt.shs; rw [List.getElem?_map, hs]; rfl
      have hsucc : nrow (V.take (k + 1)) = nrow (V.take k) ++ [.int .i64 s.node] := by
        unfold nrow
        rw [List.take_add_one, hsh, List.map_append]
        rfl
      obtain ⟨sg, hsA, hsgl, s0, s1⟩ := hh.share (unhide HDM) hs
      rw [hsA] at c2
      have HSU := hide hsucc
      obtain ⟨nd, vs, A3, c3'⟩ := s
      simp only at s0 s1 HSU
      clear hs hsh hsucc hh
      go_wp2_with (first
        | (at_builtin
           refine wpList_append_any _ rfl (.tmp 26) (.tmp 39) _ rfl w.heap.size 3 i0 _ 1 8 Try.underlying37 hi hz0 hz1 hz2 rfl (by omega) _ k _ rfl ((unhide HO).alloc _) _ _ 1 1 _ rfl (RdV.one wr _ _ _) rfl (by intro u hu; simp at hu; subst hu; rfl) (by simp only [maxLen]; omega) (by omega) (by simp; omega) ?_
           intro A7 c7 w7 hown7 hg7 hat7 hbel7 hcc7
           have HO7 := hide hown7
           have HB7 := hide (((unhide HB).alloc hsz _).trans hbel7)
           clear hown7 hg7 hat7 hbel7 hcc7))
      go_roundw
      case rel =>
        refine ⟨k + 1, A7, c7, by omega, by go_num, rfl, ?_, unhide HB7⟩
        rw [unhide HSU]
        exact unhide HO7
      case measure => simp [intOf]; omega
    · obtain rfl : k = d.l.length := by omega
      have ht : nrow (V.take d.l.length) = nrow V := by rw [← hlen, List.take_length]
      rw [ht] at HO
      clear ht hh
      go_wp2_with fail
      go_ret
      exact ⟨A, c, rfl, unhide HO, unhide HB⟩
theorem votes_succ {d : Dt} {k : Nat} {v : Vt} (h : d.vts[k]? = some v) : topV (d.votes.take (k + 1)) = if topV (d.votes.take k) < v.2.1 then v.2.1 else topV (d.votes.take k) := by
  have : d.votes[k]? = some (v.1, v.2.1) := by unfold Dt.votes; rw [List.getElem?_map, h]; rfl
  rw [List.take_add_one, this]
  exact topV_app _ _
set_option maxHeartbeats 4000000 in
set_option maxRecDepth 20000 in
theorem decided_any (S : Nat → Prop) (q : Nat) (oA : Option Addr) (oc : Nat) (D : List Dt) (d : Dt) (w : World) (h : DocAt w S q oA oc D) (hd : d ∈ D) (hl : d.vts.length ≤ 4096) :
    Calls Try.prog 35 #[.agg #[.int .u64 d.tx, .int .u64 d.low, .slice d.A d.l.length d.c, .slice d.vA d.vts.length d.vc]] w fun e w' => e = .returned (.tuple #[.int .u64 (topV d.votes), .bool ((d.vts.length : Int) == (d.l.length : Int))]) ∧ Below w.heap.size w w' := by
  have hb0 : Below w.heap.size w (w.alloc (.cells #[.int .u64 d.tx, .int .u64 d.low, .slice d.A d.l.length d.c, .slice d.vA d.vts.length d.vc] 82)) := (Below.refl _ _).alloc (Nat.le_refl _) _
  have hq0 : Blk (w.alloc (.cells #[.int .u64 d.tx, .int .u64 d.low, .slice d.A d.l.length d.c, .slice d.vA d.vts.length d.vc] 82)) w.heap.size 82 #[.int .u64 d.tx, .int .u64 d.low, .slice d.A d.l.length d.c, .slice d.vA d.vts.length d.vc] := Blk.new _ _ _
  have hh := h.new hb0
  obtain ⟨w0, hw0⟩ : ∃ u, w.alloc (.cells #[.int .u64 d.tx, .int .u64 d.low, .slice d.A d.l.length d.c, .slice d.vA d.vts.length d.vc] 82) = u := ⟨_, rfl⟩
  rw [hw0] at hb0 hq0 hh
  have c2 : w0.cell? ⟨w.heap.size, 2, none⟩ = some (.slice d.A d.l.length d.c) := hq0.cell 2
  have c3 : w0.cell? ⟨w.heap.size, 3, none⟩ = some (.slice d.vA d.vts.length d.vc) := hq0.cell 3
  have hgl := hq0.lt
  have HH := hide hh; have HB0 := hide hb0; have HD := hide hd
  have hvl : d.votes.length = d.vts.length := by simp [Dt.votes]
  have HVL := hide hvl
  clear h hd hb0 hq0 hh hvl
  go_enter Try.func35, Try.ntmps35
  go_wp2_with fail
  go_loopw [4, 5] (fun tv iv wr => ∃ k : Nat, k ≤ d.vts.length ∧ iv = .int .i64 k ∧ tv = .int .u64 (topV (d.votes.take k)) ∧ w0 = wr) (fun _ iv _ => d.vts.length - (intOf iv).toNat)
  case atStart => exact ⟨0, by omega, rfl, rfl, rfl⟩
  case round =>
    obtain ⟨k, hk, rfl, rfl, rfl⟩ := hrel
    by_cases hlt : k < d.vts.length
    · obtain ⟨v, hv⟩ : ∃ v, d.vts[k]? = some v := ⟨d.vts[k], List.getElem?_eq_getElem hlt⟩
      obtain ⟨vg, hvA, hvgl, v0, v1, v2⟩ := (unhide HH).vote (unhide HD) hv
      have hsu := votes_succ hv
      have HSU := hide hsu
      rw [hvA] at c3
      obtain ⟨T, hT⟩ : ∃ T, topV (d.votes.take k) = T := ⟨_, rfl⟩
      rw [hT] at HSU ⊢
      clear hv hsu hT
      by_cases hgt : T < v.2.1
      · have g1 : decide (T < v.2.1) = true := decide_eq_true hgt
        rw [if_pos hgt] at HSU
        go_wp2_with fail
        go_roundw
        case rel => exact ⟨k + 1, by omega, by go_num, by rw [unhide HSU], by first | rfl | trivial⟩
        case measure => simp [intOf]; omega
      · have g1 : decide (T < v.2.1) = false := decide_eq_false hgt
        rw [if_neg hgt] at HSU
        go_wp2_with fail
        go_roundw
        case rel => exact ⟨k + 1, by omega, by go_num, by rw [unhide HSU], by first | rfl | trivial⟩
        case measure => simp [intOf]; omega
    · obtain rfl : k = d.vts.length := by omega
      have ht : d.votes.take d.vts.length = d.votes := by rw [← unhide HVL, List.take_length]
      rw [ht]
      go_upto_region 7 with fail
      go_region_law fail
      all_goals go_wp2_with fail
      all_goals
        go_ret2
        exact ⟨rfl, (unhide HB0).trans (below_drewN' (Below.refl _ _) 1)⟩
end Go.Proofs.Ytcljendidhfobaa
