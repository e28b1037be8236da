/- Writes, Nodes. -/
import Derived.Test.YtcljendidhfobaaCoRead
namespace Go.Proofs.Ytcljendidhfobaa
set_option linter.unusedVariables false
open Go.RowKit

def flatS (l : List Sh) : List Vr := l.flatMap (·.2)
theorem flatS_succ {l : List Sh} {k : Nat} {s : Sh} (h : l[k]? = some s) : flatS (l.take (k + 1)) = flatS (l.take k) ++ s.2 := by
  unfold flatS
  rw [List.take_add_one, h, List.flatMap_append]
  simp
theorem flatS_le (l : List Sh) (k : Nat) : (flatS (l.take k)).length ≤ (flatS l).length := by
  have : flatS l = flatS (l.take k) ++ flatS (l.drop k) := by
    unfold flatS
    rw [← List.flatMap_append, List.take_append_drop]
  rw [this, List.length_append]
  omega
theorem writes_none (S : Nat → Prop) (p : Nat) (T : List Et) (tx : Int) (w : World) (h : TabAt w S p T) (h0 : 0 ≤ tx) (h1 : tx ≤ 18446744073709551615) (hn : getT T tx = none) :
    Calls Try.prog 12 #[.pointer (some ⟨p, 0, none⟩), .int .u64 tx] w fun e w' => e = .returned (.slice none 0 0) ∧ w = w' := by
  obtain ⟨y, h⟩ := h
  have fc := h.cell
  have fl := h.look h0 h1
  rw [hn] at fl
  simp only [Option.map_none, Option.getD_none] at fl
  clear h hn
  go_enter Try.func12, Try.ntmps12
  go_wp2_with fail
  go_ret
  exact ⟨rfl, rfl⟩
theorem nodes_none (S : Nat → Prop) (p : Nat) (T : List Et) (tx : Int) (w : World) (h : TabAt w S p T) (h0 : 0 ≤ tx) (h1 : tx ≤ 18446744073709551615) (hn : getT T tx = none) :
    Calls Try.prog 14 #[.pointer (some ⟨p, 0, none⟩), .int .u64 tx] w fun e w' => e = .returned (.slice none 0 0) ∧ w = w' := by
  obtain ⟨y, h⟩ := h
  have fc := h.cell
  have fl := h.look h0 h1
  rw [hn] at fl
  simp only [Option.map_none, Option.getD_none] at fl
  clear h hn
  go_enter Try.func14, Try.ntmps14
  go_wp2_with fail
  go_ret
  exact ⟨rfl, rfl⟩
set_option maxHeartbeats 4000000 in
set_option maxRecDepth 20000 in
theorem writes_any (S : Nat → Prop) (p : Nat) (T : List Et) (tx : Int) (e0 : Et) (w : World) (h : TabAt w S p T) (h0 : 0 ≤ tx) (h1 : tx ≤ 18446744073709551615) (hn : getT T tx = some e0) (hc : e0.shs.length ≤ 4096) (hf : (flatS e0.shs).length ≤ 1000000) :
    Calls Try.prog 12 #[.pointer (some ⟨p, 0, none⟩), .int .u64 tx] w fun e w' => ∃ A c, e = .returned (.slice A (flatS e0.shs).length c) ∧ w'.ownsRow w.heap.size 33 6 (.slice A (flatS e0.shs).length c) (flatS e0.shs).length (vrow (flatS e0.shs)) ∧ Below w.heap.size w w' := by
  obtain ⟨i0, hi, hz0, hz1, hz2⟩ := info_parts verinfo
  obtain ⟨y, h⟩ := h
  have fc := h.cell
  have fl := h.look h0 h1
  rw [hn] at fl
  simp only [Option.map_some, Option.getD_some] at fl
  have he := h.ents e0 (getT_mem hn)
  obtain rfl : e0.tx = tx := getT_tx hn
  obtain ⟨f0, f1, f2, f3, f4, f5⟩ := entAt he.blk
  have HL := hide he.len
  have HS := hide he.at_
  have HE := hide he.shs
  have hg := he.blk.lt
  obtain ⟨x, hx⟩ : ∃ x, y.X e0.tx = x := ⟨_, rfl⟩
  rw [hx] at fl f0 f1 f2 f3 f4 f5 HL HS HE hg
  unfold ptrOf at fl
  clear h hn he hx
  obtain ⟨xg, xA, xc, xvm, xem, xl⟩ := x
  simp only at fl f0 f1 f2 f3 f4 f5 HL HS HE hg
  go_enter Try.func12, Try.ntmps12
  go_wp2_with fail
  go_loopw [5, 29] (fun o i wr => ∃ (k : Nat) (A : Option Addr) (c : Nat), k ≤ e0.shs.length ∧ i = .int .i64 k ∧ o = .slice A (flatS (e0.shs.take k)).length c ∧ wr.ownsRow w.heap.size 33 6 (.slice A (flatS (e0.shs.take k)).length c) (flatS (e0.shs.take k)).length (vrow (flatS (e0.shs.take k))) ∧ Below w.heap.size w wr) (fun _ i _ => e0.shs.length - (intOf i).toNat)
  case atStart => exact ⟨0, none, 0, by omega, rfl, rfl, own_nil _ _ _ _, Below.refl _ _⟩
  case round =>
    obtain ⟨k, A, c, hk, rfl, rfl, hown, hb⟩ := hrel
    have HB := hide hb
    have HO := hide hown
    have hsz := hb.size
    have hle := flatS_le e0.shs k
    have hle2 := flatS_le e0.shs (k + 1)
    clear hb hown
    by_cases hlt : k < e0.shs.length
    · obtain ⟨s, hs⟩ : ∃ s, xl[k]? = some s := ⟨xl[k]'(by rw [unhide HL]; exact hlt), List.getElem?_eq_getElem _⟩
      have hsh : e0.shs[k]? = some (s.node, s.vs) := by rw [← unhide HE, List.getElem?_map, hs]; rfl
      have hsucc := flatS_succ hsh
      obtain ⟨ad, hA, _, hadl, c0, c1⟩ := ((unhide HS).new (unhide HB)).at_ hs
      subst hA
      rw [← Addr.add_add] at c1
      have c1' : wr.cell? ⟨(ad.add (k * 2)).block, (ad.add (k * 2)).off + 1, none⟩ = some (.slice s.A s.vs.length s.c) := c1
      have HV := hide (((unhide HS).new (unhide HB)).vers s (List.mem_of_getElem? hs)).v
      have hln : (flatS (e0.shs.take (k + 1))).length = (flatS (e0.shs.take k)).length + s.vs.length := by rw [hsucc, List.length_append]
      have HSU := hide hsucc; have HLN := hide hln
      obtain ⟨nd, vs, A3, c3⟩ := s
      simp only at c0 c1' HV HSU hln HLN
      rw [hln] at hle2
      clear hs hsh hsucc hln c1
      go_wp2_with (first
        | (at_builtin
           refine wpList_append_any _ rfl (.tmp 33) (.tmp 35) _ rfl w.heap.size 33 i0 _ 6 64 Try.underlying26 hi hz0 hz1 hz2 rfl (by omega) _ (flatS (e0.shs.take k)).length _ rfl ((unhide HO).alloc _) _ A3 vs.length c3 _ rfl ((unhide HV).below ((Below.refl _ _).alloc (Nat.le_refl _) _)) (vrow_len _) vrow_one (by simp only [maxLen]; omega) (by omega) (by simp; omega) ?_
           intro A7 c7 w7 hown7 hg7 hat7 hbel7 hcc7
           have HO7 := hide hown7
           have HB7 := hide (((unhide HB).alloc hsz _).trans hbel7)
           clear hown7 hg7 hat7 hbel7 hcc7))
      refine ⟨⟨k + 1, A7, c7, by omega, by go_num, by rw [unhide HLN], ?_, unhide HB7⟩, by simp [intOf]; omega⟩
      rw [unhide HLN, unhide HSU, vrow_app]
      exact unhide HO7
    · obtain rfl : k = e0.shs.length := by omega
      have ht : flatS (e0.shs.take e0.shs.length) = flatS e0.shs := by rw [List.take_length]
      rw [ht] at HO ⊢
      clear ht
      go_wp2_with fail
      go_ret
      exact ⟨A, c, rfl, unhide HO, unhide HB⟩
theorem intinfo : (Try.prog.info? 3).map (fun i => (i.zero, i.size, i.bytes)) = some (some (.int .i64 0), 1, 8) := by kernel_rfl
def nrow (l : List Sh) : List Value := l.map fun s => .int .i64 s.1
set_option maxHeartbeats 4000000 in
set_option maxRecDepth 20000 in
theorem nodes_any (S : Nat → Prop) (p : Nat) (T : List Et) (tx : Int) (e0 : Et) (w : World) (h : TabAt w S p T) (h0 : 0 ≤ tx) (h1 : tx ≤ 18446744073709551615) (hn : getT T tx = some e0) (hc : e0.shs.length ≤ 4096) :
    Calls Try.prog 14 #[.pointer (some ⟨p, 0, none⟩), .int .u64 tx] w fun e w' => ∃ A c, e = .returned (.slice A e0.shs.length c) ∧ w'.ownsRow w.heap.size 3 1 (.slice A e0.shs.length c) e0.shs.length (nrow e0.shs) ∧ Below w.heap.size w w' := by
  obtain ⟨i0, hi, hz0, hz1, hz2⟩ := info_parts intinfo
  obtain ⟨y, h⟩ := h
  have fc := h.cell
  have fl := h.look h0 h1
  rw [hn] at fl
  simp only [Option.map_some, Option.getD_some] at fl
  have he := h.ents e0 (getT_mem hn)
  obtain rfl : e0.tx = tx := getT_tx hn
  obtain ⟨f0, f1, f2, f3, f4, f5⟩ := entAt he.blk
  have HL := hide he.len
  have HS := hide he.at_
  have HE := hide he.shs
  have hg := he.blk.lt
  obtain ⟨x, hx⟩ : ∃ x, y.X e0.tx = x := ⟨_, rfl⟩
  rw [hx] at fl f0 f1 f2 f3 f4 f5 HL HS HE hg
  unfold ptrOf at fl
  clear h hn he hx
  obtain ⟨xg, xA, xc, xvm, xem, xl⟩ := x
  simp only at fl f0 f1 f2 f3 f4 f5 HL HS HE hg
  go_enter Try.func14, Try.ntmps14
  go_wp2_with fail
  go_loopw [5, 29] (fun o i wr => ∃ (k : Nat) (A : Option Addr) (c : Nat), k ≤ e0.shs.length ∧ i = .int .i64 k ∧ o = .slice A k c ∧ wr.ownsRow w.heap.size 3 1 (.slice A k c) k (nrow (e0.shs.take k)) ∧ Below w.heap.size w wr) (fun _ i _ => e0.shs.length - (intOf i).toNat)
  case atStart => exact ⟨0, none, 0, by omega, rfl, rfl, own_nil _ _ _ _, Below.refl _ _⟩
  case round =>
    obtain ⟨k, A, c, hk, rfl, rfl, hown, hb⟩ := hrel
    have HB := hide hb
    have HO := hide hown
    have hsz := hb.size
    clear hb hown
    by_cases hlt : k < e0.shs.length
    · obtain ⟨s, hs⟩ : ∃ s, xl[k]? = some s := ⟨xl[k]'(by rw [unhide HL]; exact hlt), List.getElem?_eq_getElem _⟩
      have hsh : e0.shs[k]? = some (s.node, s.vs) := by rw [← unhide HE, List.getElem?_map, hs]; rfl
      have hsucc : nrow (e0.shs.take (k + 1)) = nrow (e0.shs.take k) ++ [.int .i64 s.node] := by
        unfold nrow
        rw [List.take_add_one, hsh, List.map_append]
        rfl
      obtain ⟨ad, hA, _, hadl, c0, c1⟩ := ((unhide HS).new (unhide HB)).at_ hs
      subst hA
      rw [← Addr.add_add] at c1
      have c1' : wr.cell? ⟨(ad.add (k * 2)).block, (ad.add (k * 2)).off + 1, none⟩ = some (.slice s.A s.vs.length s.c) := c1
      have HSU := hide hsucc
      obtain ⟨nd, vs, A3, c3⟩ := s
      simp only at c0 c1' HSU
      have hsz1 : w.heap.size ≤ (wr.alloc (.cells #[.int .i64 nd, .slice A3 vs.length c3] 28)).heap.size := by simp; omega
      have HO5 := hide ((unhide HO).alloc (.cells #[.int .i64 nd, .slice A3 vs.length c3] 28))
      have HB5 := hide ((unhide HB).alloc hsz (.cells #[.int .i64 nd, .slice A3 vs.length c3] 28))
      have hb1l : wr.heap.size < (wr.alloc (.cells #[.int .i64 nd, .slice A3 vs.length c3] 28)).heap.size := by simp
      have hq5 : Blk (wr.alloc (.cells #[.int .i64 nd, .slice A3 vs.length c3] 28)) wr.heap.size 28 #[.int .i64 nd, .slice A3 vs.length c3] := Blk.new _ _ _
      obtain ⟨w5, hw5⟩ : ∃ u, wr.alloc (.cells #[.int .i64 nd, .slice A3 vs.length c3] 28) = u := ⟨_, rfl⟩
      rw [hw5] at HO5 HB5 hb1l hsz1 hq5
      have d0 : w5.cell? ⟨wr.heap.size, 0, none⟩ = some (.int .i64 nd) := hq5.cell 0
      clear hs hsh hsucc c1 hq5
      go_wp2_with (first
        | (at_builtin
           refine wpList_append_any _ rfl (.tmp 33) (.tmp 36) _ rfl w.heap.size 3 i0 _ 1 8 Try.underlying37 hi hz0 hz1 hz2 rfl (by omega) _ k _ rfl ((unhide HO5).alloc _) _ _ 1 1 _ rfl (RdV.one w5 _ _ _) rfl (by intro u hu; simp at hu; subst hu; rfl) (by simp only [maxLen]; omega) (by omega) (by simp; omega) ?_
           intro A7 c7 w7 hown7 hg7 hat7 hbel7 hcc7
           have HO7 := hide hown7
           have HB7 := hide (((unhide HB5).alloc hsz1 _).trans hbel7)
           clear hown7 hg7 hat7 hbel7 hcc7))
      refine ⟨⟨k + 1, A7, c7, by omega, by go_num, rfl, ?_, unhide HB7⟩, by simp [intOf]; omega⟩
      rw [unhide HSU]
      exact unhide HO7
    · obtain rfl : k = e0.shs.length := by omega
      have ht : nrow (e0.shs.take e0.shs.length) = nrow e0.shs := by rw [List.take_length]
      rw [ht] at HO
      clear ht
      go_wp2_with fail
      go_ret
      exact ⟨A, c, rfl, unhide HO, unhide HB⟩
end Go.Proofs.Ytcljendidhfobaa
