/- The walks of frame.Pack. -/
import Derived.Test.YtjlmcjegfbnhpaaFrmOpen
import Derived.Test.YtjlmcjegfbnhpaaMemLow
import Derived.Test.YtjlmcjegfbnhpaaNumFix
import Derived.Test.YtjlmcjegfbnhpaaSumWalk
namespace Go.Proofs.Ytjlmcjegfbnhpaa
set_option linter.unusedVariables false
open Go.RowKit
theorem Frm.cellsAt {w : World} {g : Nat} {t : TypeId} {v e s a : Int} {b : Value} (h : Blk w g t #[.int .i64 v, .int .i64 e, .int .i64 s, .int .i64 a, b]) :
    w.cell? ⟨g, 0, none⟩ = some (.int .i64 v) ∧ w.cell? ⟨g, 1, none⟩ = some (.int .i64 e) ∧ w.cell? ⟨g, 2, none⟩ = some (.int .i64 s) ∧ w.cell? ⟨g, 3, none⟩ = some (.int .i64 a) ∧ w.cell? ⟨g, 4, none⟩ = some b :=
  ⟨h.cell 0, h.cell 1, h.cell 2, h.cell 3, h.cell 4⟩

theorem index3 (e s a v : Value) (k : Nat) (hk : k < 3) (hx : [e, s, a][k]? = some v) (w : World) : Sem.run Try.prog (Instr.index 47 (.agg #[e, s, a]) (.int .i64 (k : Int))) w = .ok v w := by
  simp [Instr.index, run_underlying Try.underlying47, asIntOf, go_sem, hk]
  exact (List.getElem?_eq_some_iff.1 hx).2
theorem index4 (e s a n v : Value) (k : Nat) (hk : k < 4) (hx : [e, s, a, n][k]? = some v) (w : World) : Sem.run Try.prog (Instr.index 48 (.agg #[e, s, a, n]) (.int .i64 (k : Int))) w = .ok v w := by
  simp [Instr.index, run_underlying Try.underlying48, asIntOf, go_sem, hk]
  exact (List.getElem?_eq_some_iff.1 hx).2
theorem Frm.wrap_nat {x : Nat} (h : x < 18446744073709551616) : IntKind.u64.wrap (x : Int) = (x : Int) := by
  rw [IntKind.wrap_u64]
  omega
theorem fixed4 (n : Nat) (hn : n < 4294967296) (u : World) : Calls Try.prog 19 #[.int .u64 (n : Int), .int .i64 4] u (FreshBE u (Num.fx 4 n) 0) := by
  have h := fixed_any n 4 u (by omega) (by omega) (by omega)
  rwa [show Num.fixed n 4 = (Num.fx 4 n, 0) from Num.fixed_ok (w := 4) (by omega) (by omega) (Nat.div_eq_of_lt (by omega))] at h

set_option maxHeartbeats 1000000 in
set_option maxRecDepth 20000 in
theorem pack_ok (v e s a : Nat) (b : List UInt8) (A : Option Addr) (c B : Nat) (w : World) (hv : 1 ≤ v ∧ v ≤ 255) (he : e < 4294967296) (hs : s < 4294967296) (ha : a < 4294967296) (hb : b.length ≤ 1048576) (hr : RdB w B A b) (hB : B ≤ w.heap.size) :
    Calls Try.prog 10 #[.agg #[.int .i64 (v : Int), .int .i64 (e : Int), .int .i64 (s : Int), .int .i64 (a : Int), .slice A b.length c]] w (FreshBE w (Frm.whole (Frm.plain ⟨v, e, s, a, b⟩)) 0) := by
  obtain ⟨i0, hi, hz0, hz1, hz2⟩ := info_parts u8info
  obtain ⟨W, hW⟩ : ∃ W, w.alloc (.cells #[.int .i64 (v : Int), .int .i64 (e : Int), .int .i64 (s : Int), .int .i64 (a : Int), .slice A b.length c] 24) = W := ⟨_, rfl⟩
  have HM0 : Hid (Mem w W [(w.heap.size, 24, #[.int .i64 (v : Int), .int .i64 (e : Int), .int .i64 (s : Int), .int .i64 (a : Int), .slice A b.length c])]) := hide (by rw [← hW]; exact (Mem.start w).new w.heap.size rfl)
  have fc := Frm.cellsAt (unhide HM0).blk0
  have hws : W.heap.size = w.heap.size + 1 := by rw [← hW]; simp
  have hL : [e, s, a, b.length].length = 4 := rfl
  obtain ⟨L, hLe⟩ : ∃ L, [e, s, a, b.length] = L := ⟨_, rfl⟩
  have HL := hide hLe
  have hl4 : L.length = 4 := by rw [← hLe]; rfl
  have HG : Hid (∀ (k : Nat) (h : k < L.length), L[k] < 4294967296 ∧ ∀ u, Sem.run Try.prog (Instr.index 48 (.agg #[.int .i64 (e : Int), .int .i64 (s : Int), .int .i64 (a : Int), .int .i64 (b.length : Int)]) (.int .i64 (k : Int))) u = .ok (.int .i64 (L[k] : Int)) u) := by
    intro k h
    subst hLe
    refine ⟨?_, fun u => index4 _ _ _ _ _ k h ?_ u⟩
    · obtain rfl | rfl | rfl | rfl : k = 0 ∨ k = 1 ∨ k = 2 ∨ k = 3 := by simp at h; omega
      all_goals simp
      all_goals omega
    · obtain rfl | rfl | rfl | rfl : k = 0 ∨ k = 1 ∨ k = 2 ∨ k = 3 := by simp at h; omega
      all_goals rfl
  have hp : Frm.plain ⟨v, e, s, a, b⟩ = Frm.row v L 4 ++ b := by
    rw [← hl4, Frm.row_all, ← hLe]
    rfl
  rw [hp]
  clear hLe hL hp
  go_enter Try.func10, Try.ntmps10
  go_wp2_with fail
  go_loopw [28] (fun i wr => ∃ k : Nat, k ≤ 3 ∧ i = .int .i64 k ∧ wr = W) (fun i _ => 3 - (intOf i).toNat)
  case atStart => exact ⟨0, by omega, rfl, rfl⟩
  case round =>
    obtain ⟨k, hk, rfl, hwr⟩ := hrel
    obtain rfl := hwr.symm
    by_cases hlt : k < 3
    · obtain ⟨n, hix, hn2⟩ : ∃ n : Nat, (∀ u, Sem.run Try.prog (Instr.index 47 (.agg #[.int .i64 (e : Int), .int .i64 (s : Int), .int .i64 (a : Int)]) (.int .i64 (k : Int))) u = .ok (.int .i64 (n : Int)) u) ∧ n < 4294967296 := by
        obtain rfl | rfl | rfl : k = 0 ∨ k = 1 ∨ k = 2 := by omega
        · exact ⟨e, fun u => index3 _ _ _ _ 0 (by omega) rfl u, he⟩
        · exact ⟨s, fun u => index3 _ _ _ _ 1 (by omega) rfl u, hs⟩
        · exact ⟨a, fun u => index3 _ _ _ _ 2 (by omega) rfl u, ha⟩
      go_wp2_with fail
      go_roundw
      case rel => exact ⟨k + 1, by omega, by go_num, trivial⟩
      case measure => simp [intOf]; omega
    · obtain rfl : k = 3 := by omega
      go_wp2_with fail
      have HO1 := hide (own_new W (w.heap.size + 1) #[Value.int .u8 (v : Int)] 5 1 _ (by omega) (by simp [maxLen]) rfl rfl)
      have HM1 := hide ((unhide HM0).other (.cells #[Value.int .u8 (v : Int)] 5))
      go_loopw [6, 56] (fun b6 i wx => ∃ (k : Nat) (A' : Option Addr) (c' : Nat), k ≤ 4 ∧ i = .int .i64 k ∧ b6 = .slice A' (1 + 4 * k) c' ∧
          Mem w wx [(w.heap.size, 24, #[.int .i64 (v : Int), .int .i64 (e : Int), .int .i64 (s : Int), .int .i64 (a : Int), .slice A b.length c])] ∧
          wx.ownsRow (w.heap.size + 1) 5 1 (.slice A' (1 + 4 * k) c') (1 + 4 * k) ((Frm.row v L k).map Bv) ∧ w.heap.size + 1 ≤ wx.heap.size) (fun _ i _ => 4 - (intOf i).toNat)
      case atStart => exact ⟨0, _, _, by omega, rfl, rfl, unhide HM1, by
        have h := unhide HO1
        have e : (Frm.row v L 0).map Bv = #[Value.int .u8 (v : Int)].toList := by
          rw [Frm.row_zero]
          simp [Bv]
          omega
        rw [e, ← hws]
        rw [← hws] at h
        exact h, by simp; omega⟩
      case round =>
        obtain ⟨k, A', c', hk, rfl, rfl, hmem, hown, hsz⟩ := hrel
        by_cases hlt : k < 4
        · have hkl : k < L.length := by omega
          have HF := hide (fixed4 L[k] ((unhide HG) k hkl).1)
          have hix := ((unhide HG) k hkl).2
          have hwz : IntKind.u64.wrap (L[k] : Int) = (L[k] : Int) := Frm.wrap_nat (by have := ((unhide HG) k hkl).1; omega)
          have HMa := hide hmem
          have HOa := hide hown
          clear hmem hown
          go_wp2_with (first
            | (go_at_call 19; refine (unhide HF _).mono ?_; rintro _ w2 ⟨A2, c2, rfl, hown2, hbel2, hcc2⟩
               have HMb := hide ((unhide HMa).called hbel2); have HOb := hide (own_below (unhide HOa) hbel2 (fun q hq => ((unhide HOa).lt q hq).2)); have HR2 := hide (RdV.of_own hown2); have HZ := hide (Nat.le_trans hsz hbel2.size); clear hown2 hbel2 hcc2)
            | (at_builtin
               refine wpList_append_any _ rfl (.tmp 65) (.tmp 66) _ rfl (w.heap.size + 1) 5 i0 _ 1 1 Try.underlying22 hi hz0 hz1 hz2 rfl (by omega) _ (1 + 4 * k) _ rfl
                 (unhide HOb) _ A2 (Num.fx 4 L[k]).length c2 _ rfl (unhide HR2) (by simp) oneCell_Bv (by rw [Num.fx_length]; simp only [maxLen]; omega) (by rw [Num.fx_length]; omega) (unhide HZ) ?_
               intro A3 c3 w3 hown3 hg3 hat3 hbel3 hcc3
               have e5 : 1 + 4 * k + (Num.fx 4 L[k]).length = 1 + 4 * (k + 1) := by rw [Num.fx_length]; omega
               rw [e5] at hown3 ⊢; clear e5
               have HO3 := hide hown3; have HM3 := hide ((unhide HMb).low hbel3 (by simp) (by omega)); have HZ3 := hide (Nat.le_trans (unhide HZ) hbel3.size); clear hown3 hg3 hat3 hbel3))
          go_roundw
          case rel =>
            exact ⟨k + 1, A3, c3, by omega, by go_num, rfl, unhide HM3, by rw [Frm.row_succ v L k hkl, List.map_append]; exact unhide HO3, unhide HZ3⟩
          case measure => simp [intOf]; omega
        · obtain rfl : k = 4 := by omega
          have hrl := Frm.row_len v L 4 (by omega)
          obtain ⟨p, hp⟩ : ∃ p, Frm.row v L 4 ++ b = p := ⟨_, rfl⟩
          have hpl : Hid (p.length = 17 + b.length) := hide (by rw [← hp, List.length_append, hrl])
          have HX := hide (hr.below (hmem.below.mono hB)).v
          have HMa := hide hmem
          have HOa := hide hown
          have hfc := Frm.cellsAt hmem.blk0
          have HPE := hide (congrArg Frm.whole hp)
          have HP : Hid (p.map Bv = (Frm.row v L 4).map Bv ++ b.map Bv) := hide (by rw [← hp, List.map_append])
          clear hmem hown hp hrl HL
          go_wp2_with (first
            | (at_builtin
               refine wpList_append_any _ rfl (.tmp 69) (.tmp 71) _ rfl (w.heap.size + 1) 5 i0 _ 1 1 Try.underlying22 hi hz0 hz1 hz2 rfl (by omega) _ 17 _ rfl
                 (unhide HOa) _ A b.length c (b.map Bv) rfl (unhide HX) (by simp) oneCell_Bv (by simp only [maxLen]; omega) (by omega) hsz ?_
               intro A3 c3 w3 hown3 hg3 hat3 hbel3 hcc3
               rw [← unhide hpl, ← unhide HP] at hown3; rw [← unhide hpl]
               have HO3 := hide hown3; have HR3 := hide (RdB.of_own hown3); have HM3 := hide ((unhide HMa).low hbel3 (by simp) (by omega)); have HZ3 := hide (Nat.le_trans hsz hbel3.size); clear hown3 hg3 hat3 hbel3)
            | (go_at_call 20; refine (of_any p A3 c3 _ w3 (unhide HR3) (by have := unhide hpl; simp only [maxLen]; omega)).mono ?_; rintro _ w4 ⟨rfl, rfl⟩))
          have hq32 : (Crc.more 0#32 p).toNat < 4294967296 := (Crc.more 0#32 p).isLt
          have HQ : Hid (Frm.whole p = p ++ Frm.le4 (Crc.more 0#32 p).toNat) := hide rfl
          generalize (Crc.more 0#32 p).toNat = q at hq32 HQ ⊢
          have hBE := hide (unhide HM3).below
          go_loopw [6, 75] (fun b6 i wx => ∃ (k : Nat) (A' : Option Addr) (c' : Nat), k ≤ 4 ∧ i = .int .i64 k ∧ b6 = .slice A' (p.length + k) c' ∧
              wx.ownsRow (w.heap.size + 1) 5 1 (.slice A' (p.length + k) c') (p.length + k) ((p ++ Frm.low q k).map Bv) ∧ Below w.heap.size w wx ∧ w.heap.size + 1 ≤ wx.heap.size) (fun _ i _ => 4 - (intOf i).toNat)
          case atStart => exact ⟨0, _, _, by omega, rfl, rfl, by rw [show Frm.low q 0 = [] from rfl, List.append_nil]; exact unhide HO3, unhide hBE, unhide HZ3⟩
          case round =>
            obtain ⟨k, A', c', hk, rfl, rfl, hown, hbel, hsz⟩ := hrel
            have hp5 : p.length ≤ 1048593 := by have := unhide hpl; omega
            by_cases hlt : k < 4
            · have HOa := hide hown
              have HE := hide hbel
              clear hown hbel
              go_wp2_with (at_builtin
                           refine wpList_append_any _ rfl (.tmp 78) (.tmp 84) _ rfl (w.heap.size + 1) 5 i0 _ 1 1 Try.underlying22 hi hz0 hz1 hz2 rfl (by omega) _ (p.length + k) _ rfl
                             ((unhide HOa).alloc _) _ _ 1 1 _ rfl (RdV.one wr _ _ _) rfl (by intro u hu; simp at hu; subst hu; rfl) (by simp only [maxLen]; omega) (by omega) (by simp; omega) ?_
                           intro A1 c1 w1 hown1 _ _ hbel1 hcc; have HO1 := hide hown1; have HE1 := hide (((unhide HE).alloc (unhide HE).size _).trans (hbel1.mono (Nat.le_succ _))); have HZ1 := hide (Nat.le_trans (show w.heap.size + 1 ≤ _ by simp; omega) hbel1.size); clear hown1 hbel1)
              have e8 : Value.int IntKind.u8 ((q : Int) / 2 ^ (8 * k) % 256) = Bv (UInt8.ofNat (q / 256 ^ k)) := Num.bv_shr q k
              go_roundw
              case rel => exact ⟨k + 1, A1, c1, by omega, by go_num, rfl, by rw [Frm.low_succ, ← List.append_assoc, List.map_append (l₁ := p ++ Frm.low q k), List.map_singleton, ← e8]; exact unhide HO1, unhide HE1, unhide HZ1⟩
              case measure => simp [intOf]; omega
            · obtain rfl : k = 4 := by omega
              have HOa := hide hown
              have HE := hide hbel
              clear hown hbel
              go_wp2_with fail
              go_ret2
              rw [unhide HPE]
              have hl : (Frm.whole p).length = p.length + 4 := Frm.whole_len p
              refine ⟨A', c', by rw [hl]; rfl, ?_, unhide HE, ?_⟩
              · rw [hl, unhide HQ, ← Frm.low_four]
                exact own_more (unhide HOa) (fun q hq => Nat.le_of_succ_le ((unhide HOa).lt q hq).1)
              · rw [hl]
                obtain ⟨A4, c4, e, hc, _⟩ := own_form (unhide HOa)
                injection e with _ _ e3
                omega
end Go.Proofs.Ytjlmcjegfbnhpaa
