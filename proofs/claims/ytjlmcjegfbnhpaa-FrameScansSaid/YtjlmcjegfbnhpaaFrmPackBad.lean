/- frame.Pack refuses. -/
import Derived.Test.YtjlmcjegfbnhpaaFrmPack
namespace Go.Proofs.Ytjlmcjegfbnhpaa
set_option linter.unusedVariables false
open Go.RowKit
theorem freshBE_nil {w w' : World} (hb : Below w.heap.size w w') (err : Int) : FreshBE w [] err (.returned (.tuple #[.slice none 0 0, .int .i64 err])) w' :=
  ⟨none, 0, rfl, own_nil _ _ _ _, hb, Nat.le_refl _⟩
def Frm.good (n : Int) : Prop := 0 ≤ n ∧ n < 4294967296
theorem list3 {α : Type} {e s a : α} {k : Nat} (hk : k < 3) : ∃ n, [e, s, a][k]? = some n := by
  obtain rfl | rfl | rfl : k = 0 ∨ k = 1 ∨ k = 2 := by omega
  · exact ⟨e, rfl⟩
  · exact ⟨s, rfl⟩
  · exact ⟨a, rfl⟩
theorem index3i (e s a n : Int) (k : Nat) (hk : k < 3) (hx : [e, s, a][k]? = some n) (w : World) : Sem.run Try.prog (Instr.index 47 (.agg #[.int .i64 e, .int .i64 s, .int .i64 a]) (.int .i64 (k : Int))) w = .ok (.int .i64 n) w :=
  index3 _ _ _ _ k hk (by
    have : ([e, s, a].map (Value.int .i64))[k]? = some (.int .i64 n) := by rw [List.getElem?_map, hx]; rfl
    exact this) w

set_option maxHeartbeats 1000000 in
set_option maxRecDepth 20000 in
theorem pack_bad (v e s a : Int) (b : List UInt8) (A : Option Addr) (c : Nat) (w : World) (hbad : Frm.Bad ⟨v, e, s, a, b⟩) :
    Calls Try.prog 10 #[.agg #[.int .i64 v, .int .i64 e, .int .i64 s, .int .i64 a, .slice A b.length c]] w (FreshBE w [] 1) := by
  obtain ⟨W, hW⟩ : ∃ W, w.alloc (.cells #[.int .i64 v, .int .i64 e, .int .i64 s, .int .i64 a, .slice A b.length c] 24) = W := ⟨_, rfl⟩
  have hbW : Below w.heap.size w W := by rw [← hW]; exact (Below.refl _ _).alloc (Nat.le_refl _) _
  have fc : _ := Frm.cellsAt (w := W) (g := w.heap.size) (t := 24) (v := v) (e := e) (s := s) (a := a) (b := .slice A b.length c) (by rw [← hW]; exact Blk.new _ _ _)
  by_cases h1 : v < 1
  · go_enter Try.func10, Try.ntmps10
    go_wp2_with fail
    go_ret2
    exact freshBE_nil hbW 1
  · have h1' : 1 ≤ v := by omega
    by_cases h2 : 255 < v
    · go_enter Try.func10, Try.ntmps10
      go_wp2_with fail
      go_ret2
      exact freshBE_nil hbW 1
    · have h2' : v ≤ 255 := by omega
      have hb3 : Hid (¬ (Frm.good e ∧ Frm.good s ∧ Frm.good a)) := by
        intro ⟨h3, h4, h5⟩
        unfold Frm.good at h3 h4 h5
        simp only [Frm.Bad] at hbad
        omega
      clear hbad
      go_enter Try.func10, Try.ntmps10
      go_wp2_with fail
      go_loopw [28] (fun i wr => ∃ k : Nat, k ≤ 3 ∧ i = .int .i64 k ∧ wr = W ∧ ∀ j n, j < k → [e, s, a][j]? = some n → Frm.good n) (fun i _ => 3 - (intOf i).toNat)
      case atStart => exact ⟨0, by omega, rfl, rfl, fun j n h => by omega⟩
      case round =>
        obtain ⟨k, hk, rfl, hwr, hgd⟩ := hrel
        obtain rfl := hwr.symm
        by_cases hlt : k < 3
        · obtain ⟨n, hn⟩ := list3 (e := e) (s := s) (a := a) hlt
          have hix := fun u => index3i e s a n k hlt hn u
          have HG := hide hgd
          have HN := hide hn
          clear hgd hn
          by_cases h3 : n < 0
          · go_wp2_with fail
            go_ret2
            exact freshBE_nil hbW 1
          · have h3' : 0 ≤ n := by omega
            by_cases h4 : 4294967296 ≤ n
            · go_wp2_with fail
              go_ret2
              exact freshBE_nil hbW 1
            · have h4' : n < 4294967296 := by omega
              go_wp2_with fail
              go_roundw
              case rel => exact ⟨k + 1, by omega, by go_num, trivial, fun j m hj hm => by
                rcases Nat.lt_or_ge j k with h | h
                · exact (unhide HG) j m h hm
                · obtain rfl : j = k := by omega
                  rw [unhide HN] at hm
                  injection hm with hm
                  subst hm
                  exact ⟨h3', h4'⟩⟩
              case measure => simp [intOf]; omega
        · obtain rfl : k = 3 := by omega
          exact absurd ⟨hgd 0 e (by omega) rfl, hgd 1 s (by omega) rfl, hgd 2 a (by omega) rfl⟩ (unhide hb3)

set_option maxHeartbeats 1000000 in
set_option maxRecDepth 20000 in
theorem pack_long (v e s a : Nat) (b : List UInt8) (A : Option Addr) (c : Nat) (w : World) (hv : 1 ≤ v ∧ v ≤ 255) (he : e < 4294967296) (hs : s < 4294967296) (ha : a < 4294967296) (hb : 1048576 < b.length) (hb63 : b.length ≤ 9223372036854775807) :
    Calls Try.prog 10 #[.agg #[.int .i64 (v : Int), .int .i64 (e : Int), .int .i64 (s : Int), .int .i64 (a : Int), .slice A b.length c]] w (FreshBE w [] 6) := by
  obtain ⟨W, hW⟩ : ∃ W, w.alloc (.cells #[.int .i64 (v : Int), .int .i64 (e : Int), .int .i64 (s : Int), .int .i64 (a : Int), .slice A b.length c] 24) = W := ⟨_, rfl⟩
  have hbW : Below w.heap.size w W := by rw [← hW]; exact (Below.refl _ _).alloc (Nat.le_refl _) _
  have fc : _ := Frm.cellsAt (w := W) (g := w.heap.size) (t := 24) (v := v) (e := e) (s := s) (a := a) (b := .slice A b.length c) (by rw [← hW]; exact Blk.new _ _ _)
  go_enter Try.func10, Try.ntmps10
  go_wp2_with fail
  go_loopw [28] (fun i wr => ∃ k : Nat, k ≤ 3 ∧ i = .int .i64 k ∧ wr = W) (fun i _ => 3 - (intOf i).toNat)
  case atStart => exact ⟨0, by omega, rfl, rfl⟩
  case round =>
    obtain ⟨k, hk, rfl, hwr⟩ := hrel
    obtain rfl := hwr.symm
    by_cases hlt : k < 3
    · obtain ⟨n, hix, hn2⟩ : ∃ n : Nat, (∀ u, Sem.run Try.prog (Instr.index 47 (.agg #[.int .i64 (e : Int), .int .i64 (s : Int), .int .i64 (a : Int)]) (.int .i64 (k : Int))) u = .ok (.int .i64 (n : Int)) u) ∧ n < 4294967296 := by
        obtain rfl | rfl | rfl : k = 0 ∨ k = 1 ∨ k = 2 := by omega
        · exact ⟨e, fun u => index3 _ _ _ _ 0 (by omega) rfl u, he⟩
        · exact ⟨s, fun u => index3 _ _ _ _ 1 (by omega) rfl u, hs⟩
        · exact ⟨a, fun u => index3 _ _ _ _ 2 (by omega) rfl u, ha⟩
      go_wp2_with fail
      go_roundw
      case rel => exact ⟨k + 1, by omega, by go_num, trivial⟩
      case measure => simp [intOf]; omega
    · obtain rfl : k = 3 := by omega
      go_wp2_with fail
      go_ret2
      exact freshBE_nil hbW 6
theorem Frm.nats {f : Frm.F} (h : ¬ Frm.Bad f) : ∃ v e s a : Nat, f = ⟨v, e, s, a, f.body⟩ ∧ (1 ≤ v ∧ v ≤ 255) ∧ e < 4294967296 ∧ s < 4294967296 ∧ a < 4294967296 := by
  obtain ⟨v, e, s, a, b⟩ := f
  simp only [Frm.Bad] at h
  obtain ⟨v, rfl⟩ := Int.eq_ofNat_of_zero_le (show 0 ≤ v by omega)
  obtain ⟨e, rfl⟩ := Int.eq_ofNat_of_zero_le (show 0 ≤ e by omega)
  obtain ⟨s, rfl⟩ := Int.eq_ofNat_of_zero_le (show 0 ≤ s by omega)
  obtain ⟨a, rfl⟩ := Int.eq_ofNat_of_zero_le (show 0 ≤ a by omega)
  exact ⟨v, e, s, a, rfl, by omega, by omega, by omega, by omega⟩
/-- frame.Pack, of any frame -/
theorem pack_any (f : Frm.F) (A : Option Addr) (c B : Nat) (w : World) (hr : RdB w B A f.body) (hB : B ≤ w.heap.size) (hb63 : f.body.length ≤ 9223372036854775807) :
    Calls Try.prog 10 #[Frm.val f A c] w (FreshBE w (Frm.pack f).1 (Frm.pack f).2) := by
  unfold Frm.pack
  by_cases h : Frm.Bad f
  · rw [if_pos h]
    exact pack_bad f.ver f.epoch f.seq f.ack f.body A c w h
  · rw [if_neg h]
    obtain ⟨v, e, s, a, hf, hv, he, hs, ha⟩ := Frm.nats h
    generalize f.body = b at *
    subst hf
    by_cases hl : 1048576 < b.length
    · rw [if_pos hl]
      exact pack_long v e s a b A c w hv he hs ha hl hb63
    · rw [if_neg hl]
      exact pack_ok v e s a b A c B w hv he hs ha (by omega) hr hB
end Go.Proofs.Ytjlmcjegfbnhpaa
