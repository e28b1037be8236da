/- The document's Pack. -/
import Derived.Test.YtjlmcjegfbnhpaaFrmPackBad
namespace Go.Proofs.Ytjlmcjegfbnhpaa
set_option linter.unusedVariables false
open Go.RowKit
theorem refFixed4 (n : Nat) (hn : n < 4294967296) (u : World) : Calls Try.prog 21 #[.int .u64 (n : Int), .int .i64 4] u (FreshBE u (Num.fx 4 n) 0) := by
  have h := refFixed_any n 4 u (by omega) (by omega) (by omega)
  rwa [show Num.fixed n 4 = (Num.fx 4 n, 0) from Num.fixed_ok (w := 4) (by omega) (by omega) (Nat.div_eq_of_lt (by omega))] at h
theorem Frm.le4_vals {q : Nat} (hq : q < 4294967296) : [Value.int IntKind.u8 ((q : Int) % 256), .int .u8 ((q : Int) / 256 % 256), .int .u8 ((q : Int) / 65536 % 256), .int .u8 ((q : Int) / 16777216)] = (Frm.le4 q).map Bv := by
  have h : ∀ n : Nat, ((UInt8.ofNat n).toNat : Int) = (n : Int) % 256 := fun n => by rw [UInt8.toNat_ofNat']; omega
  simp only [Frm.le4, List.map_cons, List.map_nil, Bv, h, List.cons.injEq, Value.int.injEq, true_and, and_true]
  omega

set_option maxHeartbeats 1000000 in
set_option maxRecDepth 20000 in
theorem refPack_bad (v e s a : Int) (b : List UInt8) (A : Option Addr) (c : Nat) (w : World) (hbad : Frm.Bad ⟨v, e, s, a, b⟩) :
    Calls Try.prog 11 #[.agg #[.int .i64 v, .int .i64 e, .int .i64 s, .int .i64 a, .slice A b.length c]] w (FreshBE w [] 1) := by
  obtain ⟨W, hW⟩ : ∃ W, w.alloc (.cells #[.int .i64 v, .int .i64 e, .int .i64 s, .int .i64 a, .slice A b.length c] 24) = W := ⟨_, rfl⟩
  have hbW : Below w.heap.size w W := by rw [← hW]; exact (Below.refl _ _).alloc (Nat.le_refl _) _
  have fc : _ := Frm.cellsAt (w := W) (g := w.heap.size) (t := 24) (v := v) (e := e) (s := s) (a := a) (b := .slice A b.length c) (by rw [← hW]; exact Blk.new _ _ _)
  have h8 : v < 1 ∨ (1 ≤ v ∧ 255 < v) ∨ (1 ≤ v ∧ v ≤ 255 ∧ e < 0) ∨ (1 ≤ v ∧ v ≤ 255 ∧ 0 ≤ e ∧ 4294967295 < e) ∨ (1 ≤ v ∧ v ≤ 255 ∧ 0 ≤ e ∧ e ≤ 4294967295 ∧ s < 0) ∨ (1 ≤ v ∧ v ≤ 255 ∧ 0 ≤ e ∧ e ≤ 4294967295 ∧ 0 ≤ s ∧ 4294967295 < s) ∨
      (1 ≤ v ∧ v ≤ 255 ∧ 0 ≤ e ∧ e ≤ 4294967295 ∧ 0 ≤ s ∧ s ≤ 4294967295 ∧ a < 0) ∨ (1 ≤ v ∧ v ≤ 255 ∧ 0 ≤ e ∧ e ≤ 4294967295 ∧ 0 ≤ s ∧ s ≤ 4294967295 ∧ 0 ≤ a ∧ 4294967295 < a) := by
    simp only [Frm.Bad] at hbad
    omega
  clear hbad
  rcases h8 with h1 | ⟨h1, h2⟩ | ⟨h1, h2, h3⟩ | ⟨h1, h2, h3, h4⟩ | ⟨h1, h2, h3, h4, h5⟩ | ⟨h1, h2, h3, h4, h5, h6⟩ | ⟨h1, h2, h3, h4, h5, h6, h7⟩ | ⟨h1, h2, h3, h4, h5, h6, h7, h8⟩
  all_goals
    go_enter Try.func11, Try.ntmps11
    go_wp2_with fail
    go_ret2
    exact freshBE_nil hbW 1

set_option maxHeartbeats 1000000 in
set_option maxRecDepth 20000 in
theorem refPack_long (v e s a : Nat) (b : List UInt8) (A : Option Addr) (c : Nat) (w : World) (hv : 1 ≤ v ∧ v ≤ 255) (he : e < 4294967296) (hs : s < 4294967296) (ha : a < 4294967296) (hb : 1048576 < b.length) (hb63 : b.length ≤ 9223372036854775807) :
    Calls Try.prog 11 #[.agg #[.int .i64 (v : Int), .int .i64 (e : Int), .int .i64 (s : Int), .int .i64 (a : Int), .slice A b.length c]] w (FreshBE w [] 6) := by
  obtain ⟨W, hW⟩ : ∃ W, w.alloc (.cells #[.int .i64 (v : Int), .int .i64 (e : Int), .int .i64 (s : Int), .int .i64 (a : Int), .slice A b.length c] 24) = W := ⟨_, rfl⟩
  have hbW : Below w.heap.size w W := by rw [← hW]; exact (Below.refl _ _).alloc (Nat.le_refl _) _
  have fc : _ := Frm.cellsAt (w := W) (g := w.heap.size) (t := 24) (v := v) (e := e) (s := s) (a := a) (b := .slice A b.length c) (by rw [← hW]; exact Blk.new _ _ _)
  have h1 : (1 : Int) ≤ (v : Int) := by omega
  have h2 : (v : Int) ≤ 255 := by omega
  have h3 : (e : Int) ≤ 4294967295 := by omega
  have h4 : (s : Int) ≤ 4294967295 := by omega
  have h5 : (a : Int) ≤ 4294967295 := by omega
  go_enter Try.func11, Try.ntmps11
  go_wp2_with fail
  go_ret2
  exact freshBE_nil hbW 6

set_option maxHeartbeats 1000000 in
set_option maxRecDepth 20000 in
theorem refPack_ok (v e s a : Nat) (b : List UInt8) (A : Option Addr) (c B : Nat) (w : World) (hv : 1 ≤ v ∧ v ≤ 255) (he : e < 4294967296) (hs : s < 4294967296) (ha : a < 4294967296) (hb : b.length ≤ 1048576) (hr : RdB w B A b) (hB : B ≤ w.heap.size) :
    Calls Try.prog 11 #[.agg #[.int .i64 (v : Int), .int .i64 (e : Int), .int .i64 (s : Int), .int .i64 (a : Int), .slice A b.length c]] w (FreshBE w (Frm.whole (Frm.plain ⟨v, e, s, a, b⟩)) 0) := by
  obtain ⟨i0, hi, hz0, hz1, hz2⟩ := info_parts u8info
  obtain ⟨W, hW⟩ : ∃ W, w.alloc (.cells #[.int .i64 (v : Int), .int .i64 (e : Int), .int .i64 (s : Int), .int .i64 (a : Int), .slice A b.length c] 24) = W := ⟨_, rfl⟩
  have HM0 : Hid (Mem w W [(w.heap.size, 24, #[.int .i64 (v : Int), .int .i64 (e : Int), .int .i64 (s : Int), .int .i64 (a : Int), .slice A b.length c])]) := hide (by rw [← hW]; exact (Mem.start w).new w.heap.size rfl)
  have fc := Frm.cellsAt (unhide HM0).blk0
  have hws : W.heap.size = w.heap.size + 1 := by rw [← hW]; simp
  obtain ⟨L, hLe⟩ : ∃ L, [e, s, a, b.length] = L := ⟨_, rfl⟩
  have hl4 : L.length = 4 := by rw [← hLe]; rfl
  have HG : Hid (∀ (k : Nat) (h : k < L.length), L[k] < 4294967296) := by
    intro k h
    subst hLe
    obtain rfl | rfl | rfl | rfl : k = 0 ∨ k = 1 ∨ k = 2 ∨ k = 3 := by simp at h; omega
    all_goals simp
    all_goals omega
  have HC : Hid (#[Value.int .i64 (e : Int), .int .i64 (s : Int), .int .i64 (a : Int), .int .i64 (b.length : Int)] = (L.map fun n : Nat => Value.int .i64 (n : Int)).toArray) := by
    show _ = _
    rw [← hLe]
    rfl
  have hp : Frm.plain ⟨v, e, s, a, b⟩ = Frm.row v L 4 ++ b := by
    rw [← hl4, Frm.row_all, ← hLe]
    rfl
  have h1 : (1 : Int) ≤ (v : Int) := by omega
  have h2 : (v : Int) ≤ 255 := by omega
  have h3 : (e : Int) ≤ 4294967295 := by omega
  have h4 : (s : Int) ≤ 4294967295 := by omega
  have h5 : (a : Int) ≤ 4294967295 := by omega
  have h6 : (b.length : Int) ≤ 1048576 := by omega
  rw [hp]
  clear hLe hp
  have HO1 := hide (own_new W (w.heap.size + 1) #[Value.int .u8 (v : Int)] 5 1 _ (by omega) (by simp [maxLen]) rfl rfl)
  have HM1 := hide (((unhide HM0).other (.cells #[Value.int .u8 (v : Int)] 5)).new (t := 3) (cs := #[Value.int .i64 (e : Int), .int .i64 (s : Int), .int .i64 (a : Int), .int .i64 (b.length : Int)]) (w.heap.size + 1 + 1) (by simp; omega))
  have fc1 := Frm.cellsAt ((unhide HM0).other (.cells #[Value.int .u8 (v : Int)] 5)).blk0
  go_enter Try.func11, Try.ntmps11
  go_wp2_with fail
  go_loopw [4, 6] (fun b4 i wx => ∃ (k : Nat) (A' : Option Addr) (c' : Nat), k ≤ 4 ∧ i = .int .i64 k ∧ b4 = .slice A' (1 + 4 * k) c' ∧
      Mem w wx [(w.heap.size + 1 + 1, 3, (L.map fun n : Nat => Value.int .i64 (n : Int)).toArray), (w.heap.size, 24, #[.int .i64 (v : Int), .int .i64 (e : Int), .int .i64 (s : Int), .int .i64 (a : Int), .slice A b.length c])] ∧
      wx.ownsRow (w.heap.size + 1) 5 1 (.slice A' (1 + 4 * k) c') (1 + 4 * k) ((Frm.row v L k).map Bv) ∧ w.heap.size + 1 + 1 + 1 ≤ wx.heap.size ∧ (Value.slice A' (1 + 4 * k) c').ownBlock ≠ some (w.heap.size + 1 + 1)) (fun _ i _ => 4 - (intOf i).toNat)
  case atStart => exact ⟨0, some ⟨w.heap.size + 1, 0, none⟩, 1, by omega, rfl, rfl, (unhide HM1).as0 (unhide HC), by
    have h := (unhide HO1).alloc (.cells #[Value.int .i64 (e : Int), .int .i64 (s : Int), .int .i64 (a : Int), .int .i64 (b.length : Int)] 3)
    have e : (Frm.row v L 0).map Bv = #[Value.int .u8 (v : Int)].toList := by
      rw [Frm.row_zero]
      simp [Bv]
      omega
    rw [e]
    rw [hws] at h
    exact h, by simp; omega, by simp [Value.ownBlock]⟩
  case round =>
    obtain ⟨k, A', c', hk, rfl, rfl, hmem, hown, hsz, hne⟩ := hrel
    by_cases hlt : k < 4
    · have hkl : k < L.length := by omega
      have HF := hide (refFixed4 L[k] ((unhide HG) k hkl))
      have hwz : IntKind.u64.wrap (L[k] : Int) = (L[k] : Int) := Frm.wrap_nat (by have := (unhide HG) k hkl; omega)
      have c1 : wr.cell? ⟨w.heap.size + 1 + 1, k, none⟩ = some (.int .i64 (L[k] : Int)) := (hmem.blk0.cell k).trans (by simp [hkl])
      have HMa := hide hmem
      have HOa := hide hown
      have HNE := hide hne
      clear hmem hown hne
      go_wp2_with (first
        | (go_at_call 21; refine (unhide HF _).mono ?_; rintro _ w2 ⟨A2, c2, rfl, hown2, hbel2, hcc2⟩
           have HMb := hide ((unhide HMa).called hbel2); have HOb := hide (own_below (unhide HOa) hbel2 (fun q hq => ((unhide HOa).lt q hq).2)); have HR2 := hide (RdV.of_own hown2); have HZ := hide (Nat.le_trans hsz hbel2.size); clear hown2 hbel2 hcc2)
        | (at_builtin
           refine wpList_append_any _ rfl (.tmp 81) (.tmp 82) _ rfl (w.heap.size + 1) 5 i0 _ 1 1 Try.underlying22 hi hz0 hz1 hz2 rfl (by omega) _ (1 + 4 * k) _ rfl
             (unhide HOb) _ A2 (Num.fx 4 L[k]).length c2 _ rfl (unhide HR2) (by simp) oneCell_Bv (by rw [Num.fx_length]; simp only [maxLen]; omega) (by rw [Num.fx_length]; omega) (by have := unhide HZ; omega) ?_
           intro A3 c3 w3 hown3 hg3 hat3 hbel3 hcc3
           have hne3 : (Value.slice A3 (1 + 4 * k + (Num.fx 4 L[k]).length) c3).ownBlock ≠ some (w.heap.size + 1 + 1) := by
             rcases hat3 with h | h
             · rw [h]; exact unhide HNE
             · rw [h]; have := unhide HZ; intro h2; injection h2; omega
           have HM3 := hide ((unhide HMb).grownBy hg3 (fun g hg => Nat.le_of_succ_le ((unhide HOb).lt g hg).1) (by
             intro p hp
             simp only [List.mem_cons, List.not_mem_nil, or_false] at hp
             rcases hp with rfl | rfl
             · exact fun h => unhide HNE h.symm
             · exact fun h => by have := ((unhide HOb).lt _ h.symm).1; simp at this; omega))
           have e5 : 1 + 4 * k + (Num.fx 4 L[k]).length = 1 + 4 * (k + 1) := by rw [Num.fx_length]; omega
           rw [e5] at hown3 hne3 ⊢; clear e5
           have HO3 := hide hown3; have HN3 := hide hne3; have HZ3 := hide (Nat.le_trans (unhide HZ) hbel3.size); clear hown3 hg3 hat3 hbel3 hne3))
      go_roundw
      case rel => exact ⟨k + 1, A3, c3, by omega, by go_num, rfl, unhide HM3, by rw [Frm.row_succ v L k hkl, List.map_append]; exact unhide HO3, unhide HZ3, unhide HN3⟩
      case measure => simp [intOf]; omega
    · obtain rfl : k = 4 := by omega
      have hrl := Frm.row_len v L 4 (by omega)
      obtain ⟨p, hp⟩ : ∃ p, Frm.row v L 4 ++ b = p := ⟨_, rfl⟩
      have hpl : Hid (p.length = 17 + b.length) := hide (by rw [← hp, List.length_append, hrl])
      have HX := hide (hr.below (hmem.below.mono hB)).v
      have HMa := hide hmem
      have HOa := hide hown
      have hfc := Frm.cellsAt hmem.blk1
      have HPE := hide (congrArg Frm.whole hp)
      have HP : Hid (p.map Bv = (Frm.row v L 4).map Bv ++ b.map Bv) := hide (by rw [← hp, List.map_append])
      clear hmem hown hp hrl
      go_wp2_with (first
        | (at_builtin
           refine wpList_append_any _ rfl (.tmp 84) (.tmp 86) _ rfl (w.heap.size + 1) 5 i0 _ 1 1 Try.underlying22 hi hz0 hz1 hz2 rfl (by omega) _ 17 _ rfl
             (unhide HOa) _ A b.length c (b.map Bv) rfl (unhide HX) (by simp) oneCell_Bv (by simp only [maxLen]; omega) (by omega) (by omega) ?_
           intro A3 c3 w3 hown3 hg3 hat3 hbel3 hcc3
           rw [← unhide hpl, ← unhide HP] at hown3; rw [← unhide hpl]
           have HO3 := hide hown3; have HR3 := hide (RdB.of_own hown3); have HE3 := hide ((unhide HMa).below.trans (hbel3.mono (Nat.le_succ _))); have HZ3 := hide (Nat.le_trans hsz hbel3.size); clear hown3 hg3 hat3 hbel3)
        | (go_at_call 22; refine (ref_more_any 0#32 p A3 c3 _ w3 (unhide HR3) (by have := unhide hpl; simp only [maxLen]; omega)).mono ?_; rintro _ w4 ⟨rfl, rfl⟩
           have hq32 : (Crc.more 0#32 p).toNat < 4294967296 := (Crc.more 0#32 p).isLt
           have HQ : Hid (Frm.whole p = p ++ Frm.le4 (Crc.more 0#32 p).toNat) := hide rfl
           generalize (Crc.more 0#32 p).toNat = q at hq32 HQ ⊢)
        | (at_builtin
           refine wpList_append_any _ rfl (.tmp 90) (.tmp 102) _ rfl (w.heap.size + 1) 5 i0 _ 1 1 Try.underlying22 hi hz0 hz1 hz2 rfl (by omega) _ p.length _ rfl
             ((unhide HO3).alloc _) _ _ 4 4 _ rfl (RdV.of_own (own_new w3 w3.heap.size #[Value.int IntKind.u8 ((q : Int) % 256), .int .u8 ((q : Int) / 256 % 256), .int .u8 ((q : Int) / 65536 % 256), .int .u8 ((q : Int) / 16777216)] 5 4 _ (Nat.le_refl _) (by simp [maxLen]) rfl rfl)) rfl
             (by intro u hu; simp at hu; rcases hu with rfl | rfl | rfl | rfl <;> rfl) (by have := unhide hpl; simp only [maxLen]; omega) (by have := unhide hpl; omega) (by have := unhide HZ3; simp; omega) ?_
           intro A5 c5 w5 hown5 hg5 hat5 hbel5 hcc5
           have HO5 := hide hown5; have HE5 := hide (((unhide HE3).alloc (unhide HE3).size _).trans (hbel5.mono (Nat.le_succ _))); clear hown5 hg5 hat5 hbel5))
      go_ret2
      rw [unhide HPE]
      have hl : (Frm.whole p).length = p.length + 4 := Frm.whole_len p
      refine ⟨A5, c5, by rw [hl]; rfl, ?_, unhide HE5, by rw [hl]; exact hcc5⟩
      rw [hl, unhide HQ, List.map_append, ← Frm.le4_vals hq32]
      exact own_more (unhide HO5) (fun q hq => Nat.le_of_succ_le ((unhide HO5).lt q hq).1)
/-- the document's Pack, of any frame -/
theorem refPack_any (f : Frm.F) (A : Option Addr) (c B : Nat) (w : World) (hr : RdB w B A f.body) (hB : B ≤ w.heap.size) (hb63 : f.body.length ≤ 9223372036854775807) :
    Calls Try.prog 11 #[Frm.val f A c] w (FreshBE w (Frm.pack f).1 (Frm.pack f).2) := by
  unfold Frm.pack
  by_cases h : Frm.Bad f
  · rw [if_pos h]
    exact refPack_bad f.ver f.epoch f.seq f.ack f.body A c w h
  · rw [if_neg h]
    obtain ⟨v, e, s, a, hf, hv, he, hs, ha⟩ := Frm.nats h
    generalize f.body = b at *
    subst hf
    by_cases hl : 1048576 < b.length
    · rw [if_pos hl]
      exact refPack_long v e s a b A c w hv he hs ha hl hb63
    · rw [if_neg hl]
      exact refPack_ok v e s a b A c B w hv he hs ha (by omega) hr hB
end Go.Proofs.Ytjlmcjegfbnhpaa
