/- The document's net: Ways. -/
import Derived.Test.YtbclfiollfagmaaNetRefSpoil
import Derived.Test.YtbclfiollfagmaaNetIter
namespace Go.Proofs.Ytbclfiollfagmaa
set_option linter.unusedVariables false
open Go.RowKit

theorem prinfo : (Try.prog.info? 56).map (fun i => (i.zero, i.size, i.bytes)) = some (some (.agg #[.int .i64 0, .int .i64 0]), 2, 16) := by kernel_rfl
def wCells (r : List (Nat × Nat)) : List Value := r.flatMap fun x => [.int .i64 (x.1 : Int), .int .i64 (x.2 : Int)]
theorem wCells_len : ∀ (r : List (Nat × Nat)), (wCells r).length = r.length * 2
  | [] => rfl
  | x :: r => by
    have := wCells_len r
    simp only [wCells, List.flatMap_cons, List.length_append, List.length_cons, List.length_nil] at this ⊢
    omega
theorem wCells_app (a b : List (Nat × Nat)) : wCells (a ++ b) = wCells a ++ wCells b := by simp [wCells]
theorem wCells_at : ∀ (r : List (Nat × Nat)) (i : Nat) (x : Nat × Nat), r[i]? = some x → (wCells r)[i * 2]? = some (.int .i64 (x.1 : Int)) ∧ (wCells r)[i * 2 + 1]? = some (.int .i64 (x.2 : Int))
  | [], _, _, h => by simp at h
  | y :: r, 0, x, h => by
    simp at h
    subst h
    simp [wCells]
  | y :: r, i + 1, x, h => by
    have ih := wCells_at r i x (by simpa using h)
    rw [show (i + 1) * 2 = i * 2 + 2 by omega]
    simpa [wCells] using ih
def WaysP (w : World) (L : List (Nat × Nat)) (e : Ending) (w' : World) : Prop := ∃ A c, e = .returned (.slice A L.length c) ∧ w'.ownsRow w.heap.size 56 2 (.slice A L.length c) L.length (wCells L) ∧ Below w.heap.size w w'
set_option maxHeartbeats 4000000 in
set_option maxRecDepth 20000 in
theorem dways_any (B q : Nat) (d : DS) (s : NS) (w : World) (h : DocAt w B q d) (hs : d.row.length ≤ 100000) (hlen : ∀ a b : Nat, a ≤ 20 → b ≤ 20 → (way a b d.row).length = (s.ways (a * 21 + b)).ps.length) :
    Calls Try.prog 23 #[.pointer (some ⟨q, 0, none⟩)] w (WaysP w (wto s 441)) := by
  obtain ⟨j0, hj, hy0, hy1, hy2⟩ := info_parts prinfo
  have HL := hide (fun (u : World) (hu : Below w.heap.size w u) (a b : Nat) => dlen_any B q d (a : Int) (b : Int) u (h.new hu) hs)
  have HE := hide hlen
  clear h hlen
  go_enter Try.func23, Try.ntmps23
  go_wp2_with fail
  go_loopw [3, 4] (fun v i wr => ∃ (a : Nat) (A : Option Addr) (c : Nat), a ≤ 21 ∧ i = .int .i64 a ∧ v = .slice A (wto s (a * 21)).length c ∧ wr.ownsRow w.heap.size 56 2 (.slice A (wto s (a * 21)).length c) (wto s (a * 21)).length (wCells (wto s (a * 21))) ∧ Below w.heap.size w wr) (fun _ i _ => 21 - (intOf i).toNat)
  case atStart => exact ⟨0, none, 0, by omega, rfl, rfl, own_nil _ _ _ _, Below.refl _ _⟩
  case round =>
    obtain ⟨a, A, c, ha, rfl, rfl, hown, hbel⟩ := hrel
    obtain ⟨wo, hwo⟩ : ∃ u : World, u = wr := ⟨_, rfl⟩
    subst hwo
    have HO := hide hown; have HB := hide hbel
    clear hown hbel
    by_cases hlt : a < 21
    · have ga : decide ((a : Int) ≤ 20) = true := decide_eq_true (by omega)
      go_wp2_with fail
      go_loopw [3, 5] (fun v i wr => ∃ (b : Nat) (A : Option Addr) (c : Nat), b ≤ 21 ∧ i = .int .i64 b ∧ v = .slice A (wto s (a * 21 + b)).length c ∧ wr.ownsRow w.heap.size 56 2 (.slice A (wto s (a * 21 + b)).length c) (wto s (a * 21 + b)).length (wCells (wto s (a * 21 + b))) ∧ Below w.heap.size w wr) (fun _ i _ => 21 - (intOf i).toNat)
      case atStart => exact ⟨0, A, c, by omega, rfl, rfl, unhide HO, unhide HB⟩
      case round =>
        obtain ⟨b, A1, c1, hb, rfl, rfl, hown, hbel⟩ := hrel
        have HO1 := hide hown; have HB1 := hide hbel
        have hsz := hbel.size
        clear hown hbel HO HB
        by_cases hlb : b < 21
        · have gb : decide ((b : Int) ≤ 20) = true := decide_eq_true (by omega)
          have HLL := hide (unhide HL wr (unhide HB1) a b)
          have he := unhide HE a b (by omega) (by omega)
          have ed : (a * 21 + b) / 21 = a := by omega
          have em : (a * 21 + b) % 21 = b := by omega
          have hwl := wto_len s (a * 21 + b)
          rcases Nat.eq_zero_or_pos (s.ways (a * 21 + b)).ps.length with hz | hz
          · have g1 : decide ((0 : Int) < ((way (a : Int) (b : Int) d.row).length : Int)) = false := decide_eq_false (by omega)
            have g1' : decide (0 < (way (a : Int) (b : Int) d.row).length) = false := decide_eq_false (by omega)
            have HZ := hide (wto_no s _ hz)
            clear hz he
            go_wp2_with (go_at_call 22; refine (unhide HLL).mono ?_; rintro _ w2 ⟨rfl, rfl⟩)
            go_roundw
            case rel => exact ⟨b + 1, A1, c1, by omega, by go_num, by rw [← Nat.add_assoc, unhide HZ], by rw [← Nat.add_assoc, unhide HZ]; exact unhide HO1, unhide HB1⟩
            case measure => simp [intOf]; omega
          · have g1 : decide ((0 : Int) < ((way (a : Int) (b : Int) d.row).length : Int)) = true := decide_eq_true (by omega)
            have g1' : decide (0 < (way (a : Int) (b : Int) d.row).length) = true := decide_eq_true (by omega)
            have hz1 := wto_yes s _ hz
            rw [ed, em] at hz1
            have HZ := hide hz1
            clear hz he hz1
            go_wp2_with (first
              | (go_at_call 22; refine (unhide HLL).mono ?_; rintro _ w2 ⟨rfl, rfl⟩; have HOA := hide ((unhide HO1).alloc (.cells #[.int .i64 (a : Int), .int .i64 (b : Int)] 56)))
              | (at_builtin
                 refine wpList_append_any _ rfl (.tmp 19) (.tmp 23) _ rfl w.heap.size 56 j0 _ 2 16 Try.underlying51 hj hy0 hy1 hy2 rfl (by omega) _ (wto s (a * 21 + b)).length _ rfl
                   (unhide HOA) _ _ 1 1 _ rfl (RdV.of_own (base := 0) (size := 2) (World.ownsRow_lit wr #[.int .i64 (a : Int), .int .i64 (b : Int)] 1 (Nat.zero_le _) (by simp [maxLen]) rfl)) rfl (by intro u hu; simp at hu; rcases hu with rfl | rfl <;> rfl) (by simp only [maxLen]; omega) (by omega) (by simp; omega) ?_
                 intro A5 c5 w5 hown5 hg5 hat5 hbel5 hcc5
                 have HO5 := hide hown5; have HB5 := hide (((unhide HB1).alloc hsz (.cells #[.int .i64 (a : Int), .int .i64 (b : Int)] 56)).trans hbel5); clear hown5 hg5 hat5 hbel5))
            go_roundw
            case rel => exact ⟨b + 1, A5, c5, by omega, by go_num, by rw [← Nat.add_assoc, unhide HZ, List.length_append]; rfl, by rw [← Nat.add_assoc, unhide HZ, List.length_append, wCells_app]; exact unhide HO5, unhide HB5⟩
            case measure => simp [intOf]; omega
        · obtain rfl : b = 21 := by omega
          go_wp2_with fail
          go_roundw
          case rel => exact ⟨a + 1, A1, c1, by omega, by go_num, by rw [show (a + 1) * 21 = a * 21 + 21 by omega], by rw [show (a + 1) * 21 = a * 21 + 21 by omega]; exact unhide HO1, unhide HB1⟩
          case measure => simp [intOf]; omega
    · obtain rfl : a = 21 := by omega
      go_wp2_with fail
      go_ret
      exact ⟨A, c, rfl, unhide HO, unhide HB⟩
end Go.Proofs.Ytbclfiollfagmaa
