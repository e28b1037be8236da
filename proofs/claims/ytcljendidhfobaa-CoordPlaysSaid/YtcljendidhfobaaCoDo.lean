/- New, Len, find. -/
import Derived.Test.YtcljendidhfobaaCoTab
import Derived.Carry
namespace Go.Proofs.Ytcljendidhfobaa
set_option linter.unusedVariables false
open Go.RowKit

theorem wf64 {q : Int} (h0 : 0 ≤ q) (h1 : q ≤ 18446744073709551615) : (Lit.int .u64 q).wf = true := by simp [Lit.wf, IntKind.min, IntKind.max, IntKind.signed, IntKind.bits]; omega
theorem wfi {q : Int} (h0 : -9223372036854775808 ≤ q) (h1 : q ≤ 9223372036854775807) : (Lit.int .i64 q).wf = true := by simp [Lit.wf, IntKind.min, IntKind.max, IntKind.signed, IntKind.bits]; omega
theorem new_tab (w : World) : Calls Try.prog 8 #[] w fun e w' => ∃ p, e = .returned (.pointer (some ⟨p, 0, none⟩)) ∧ TabAt w' (fun k => w.heap.size ≤ k ∧ k < w'.heap.size) p [] ∧ Below w.heap.size w w' := by
  have H : Hid (TabAt ((w.alloc (.map #[] 0)).alloc (.cells #[.map (some w.heap.size)] 72)) (fun k => w.heap.size ≤ k ∧ k < ((w.alloc (.map #[] 0)).alloc (.cells #[.map (some w.heap.size)] 72)).heap.size) (w.heap.size + 1) [] ∧ Below w.heap.size w ((w.alloc (.map #[] 0)).alloc (.cells #[.map (some w.heap.size)] 72))) := by
    have hb1 : Below (w.alloc (.map #[] 0)).heap.size (w.alloc (.map #[] 0)) ((w.alloc (.map #[] 0)).alloc (.cells #[.map (some w.heap.size)] 72)) := (Below.refl _ _).alloc (Nat.le_refl _) _
    have hs : (w.alloc (.map #[] 0)).heap.size = w.heap.size + 1 := by simp
    refine ⟨⟨⟨w.heap.size, fun _ => none, fun _ => ⟨0, none, 0, 0, 0, []⟩⟩, ?_⟩, ((Below.refl _ _).alloc (Nat.le_refl _) _).alloc (by simp) _⟩
    refine ⟨by have := Blk.new (w.alloc (.map #[] 0)) 72 #[.map (some w.heap.size)]; rw [hs] at this; exact this, ?_, fun e he => absurd he (by simp), fun k a h => absurd h (by simp), ⟨by omega, by simp⟩, ⟨Nat.le_refl _, by simp; omega⟩, by simp [Keys], fun k hk => hk.2⟩
    exact ((Kq.made w).only (S := fun _ => False) (Only.of_new hb1) (fun h => h)).ext fun a _ => rfl
  have hmm := @run_makeMap Try.prog
  go_enter Try.func8, Try.ntmps8
  go_wp2_with fail
  go_ret
  exact ⟨w.heap.size + 1, by simp, unhide H⟩
theorem len_tab (S : Nat → Prop) (p : Nat) (T : List Et) (w : World) (h : TabAt w S p T) : Calls Try.prog 15 #[.pointer (some ⟨p, 0, none⟩)] w fun e w' => e = .returned (.int .i64 (T.length : Int)) ∧ w = w' := by
  obtain ⟨y, h⟩ := h
  have fc := h.cell
  have fl := fun ty => h.map.len Try.underlying70 (t := 70) ty
  clear h
  go_enter Try.func15, Try.ntmps15
  go_wp2_with fail
  go_ret
  exact ⟨rfl, rfl⟩
theorem len_nil (w : World) : Calls Try.prog 15 #[.pointer none] w fun e w' => e = .returned (.int .i64 0) ∧ w = w' := by
  go_enter Try.func15, Try.ntmps15
  go_wp2_with fail
  go_ret
  exact ⟨rfl, rfl⟩
theorem find_nil (tx node : Int) (w : World) : Calls Try.prog 30 #[.pointer none, .int .u64 tx, .int .i64 node] w fun e w' => e = .returned (.tuple #[.pointer none, .int .i64 1]) ∧ w = w' := by
  go_enter Try.func30, Try.ntmps30
  go_wp2_with fail
  go_ret2
  exact ⟨rfl, rfl⟩
theorem TabIn.look {S : Nat → Prop} {p : Nat} {y : Tx} {T : List Et} {w : World} (h : TabIn w S p y T) {tx : Int} (h0 : 0 ≤ tx) (h1 : tx ≤ 18446744073709551615) :
    (Instr.lookup 70 (.map (some y.m)) (.int .u64 tx) false).run Try.prog w = .ok (((getT T tx).map fun _ => ptrOf (y.X tx)).getD (.pointer none)) w :=
  Kq.look h.map Try.underlying31 Try.underlying70 (fun w => rfl) (wf64 h0 h1)
theorem find_none (S : Nat → Prop) (p : Nat) (T : List Et) (tx node : Int) (w : World) (h : TabAt w S p T) (h0 : 0 ≤ tx) (h1 : tx ≤ 18446744073709551615) (hn : getT T tx = none) :
    Calls Try.prog 30 #[.pointer (some ⟨p, 0, none⟩), .int .u64 tx, .int .i64 node] w fun e w' => e = .returned (.tuple #[.pointer none, .int .i64 7]) ∧ w = w' := by
  obtain ⟨y, h⟩ := h
  have fc := h.cell
  have fl := h.look h0 h1
  rw [hn] at fl
  simp only [Option.map_none, Option.getD_none] at fl
  clear h hn
  go_enter Try.func30, Try.ntmps30
  go_wp2_with fail
  go_ret2
  exact ⟨rfl, rfl⟩
def findR (e : Et) (node : Int) (x : Ex) : Value := if e.has node then .tuple #[ptrOf x, .int .i64 0] else .tuple #[.pointer none, .int .i64 18]
theorem findR_yes {e : Et} {node : Int} {x : Ex} (h : e.has node = true) : findR e node x = .tuple #[ptrOf x, .int .i64 0] := if_pos h
theorem findR_no {e : Et} {node : Int} {x : Ex} (h : e.has node = false) : findR e node x = .tuple #[.pointer none, .int .i64 18] := if_neg (by simp [h])
theorem has_of_at {e : Et} {l : List Sq} (hl : l.map Sq.sh = e.shs) {k : Nat} {s : Sq} (hs : l[k]? = some s) : e.has s.node = true := by
  unfold Et.has
  rw [← hl, List.any_eq_true]
  exact ⟨s.sh, List.mem_map.2 ⟨s, List.mem_of_getElem? hs, rfl⟩, by simp [Sq.sh]⟩
theorem has_none {e : Et} {l : List Sq} (hl : l.map Sq.sh = e.shs) {node : Int} (h : ∀ (j : Nat) (s : Sq), j < e.shs.length → l[j]? = some s → s.node ≠ node) : e.has node = false := by
  unfold Et.has
  rw [← hl, List.any_eq_false]
  intro z hz
  obtain ⟨s, hs, rfl⟩ := List.mem_map.1 hz
  obtain ⟨j, hj⟩ := List.mem_iff_getElem?.1 hs
  have := h j s (by rw [← hl, List.length_map]; exact (List.getElem?_eq_some_iff.1 hj).1) hj
  simpa [Sq.sh] using this
set_option maxHeartbeats 2000000 in
theorem find_any (S : Nat → Prop) (p : Nat) (y : Tx) (T : List Et) (tx node : Int) (e0 : Et) (w : World) (h : TabIn w S p y T) (h0 : 0 ≤ tx) (h1 : tx ≤ 18446744073709551615) (hn : getT T tx = some e0) (hc : e0.shs.length ≤ 4096) :
    Calls Try.prog 30 #[.pointer (some ⟨p, 0, none⟩), .int .u64 tx, .int .i64 node] w fun e w' => e = .returned (findR e0 node (y.X tx)) ∧ Below w.heap.size w w' := by
  have fc := h.cell
  have fl := h.look h0 h1
  rw [hn] at fl
  simp only [Option.map_some, Option.getD_some] at fl
  have he := h.ents e0 (getT_mem hn)
  obtain rfl : e0.tx = tx := getT_tx hn
  obtain ⟨f0, f1, f2, f3, f4, f5⟩ := entAt he.blk
  have HL := hide he.len
  have HS := hide he.at_
  have HE := hide he.shs
  have hg := he.blk.lt
  obtain ⟨x, hx⟩ : ∃ x, y.X e0.tx = x := ⟨_, rfl⟩
  rw [hx] at fl f0 f1 f2 f3 f4 f5 HL HS HE hg ⊢
  unfold ptrOf at fl
  clear h hn he hx
  go_enter Try.func30, Try.ntmps30
  go_wp2_with fail
  go_loopw [26] (fun i wr => ∃ k : Nat, k ≤ e0.shs.length ∧ i = .int .i64 k ∧ Below w.heap.size w wr ∧ ∀ (j : Nat) (s : Sq), j < k → x.l[j]? = some s → s.node ≠ node) (fun i _ => e0.shs.length - (intOf i).toNat)
  case atStart => exact ⟨0, by omega, rfl, Below.refl _ _, fun j s hj => by omega⟩
  case round =>
    obtain ⟨k, hk, rfl, hb, hno⟩ := hrel
    have HB := hide hb
    have HNO := hide hno
    clear hb hno
    by_cases hlt : k < e0.shs.length
    · obtain ⟨s, hs⟩ : ∃ s, x.l[k]? = some s := ⟨x.l[k]'(by rw [unhide HL]; exact hlt), List.getElem?_eq_getElem _⟩
      obtain ⟨ad, hA, _, hadl, c0, c1⟩ := ((unhide HS).new (unhide HB)).at_ hs
      rw [hA] at f1
      rw [← Addr.add_add] at c1
      have c1' : wr.cell? ⟨(ad.add (k * 2)).block, (ad.add (k * 2)).off + 1, none⟩ = some (.slice s.A s.vs.length s.c) := c1
      obtain ⟨nd, vs, A2, c2⟩ := s
      simp only at c0 c1'
      have HX := hide hs
      clear hs c1
      by_cases hq : nd = node
      · subst hq
        go_wp2_with fail
        go_ret2
        exact ⟨by rw [findR_yes (has_of_at (unhide HE) (unhide HX))]; rfl, (unhide HB).alloc (unhide HB).size _⟩
      · have fq : (nd == node) = false := beq_eq_false_iff_ne.2 hq
        have HQ := hide hq
        clear hq
        go_wp2_with fail
        refine ⟨⟨k + 1, by omega, by go_num, (unhide HB).alloc (unhide HB).size _, fun j s hj hs => ?_⟩, by simp [intOf]; omega⟩
        rcases Nat.lt_or_ge j k with h1 | h1
        · exact unhide HNO j s h1 hs
        · obtain rfl : j = k := by omega
          rw [unhide HX] at hs
          injection hs with hs
          subst hs
          exact unhide HQ
    · obtain rfl : k = e0.shs.length := by omega
      go_wp2_with fail
      go_ret2
      exact ⟨by rw [findR_no (has_none (unhide HE) (unhide HNO))]; rfl, unhide HB⟩
end Go.Proofs.Ytcljendidhfobaa
