/- The program's reader of a newer body. -/
import Derived.Test.YtkgacehnpdijaaaWireRdB
import Derived.Test.YtkgacehnpdijaaaWirePutT
import Derived.Test.YtkgacehnpdijaaaWireOrd
import Derived.Deep.RegionHeld3
import Derived.Deep.CutBlock
import Derived.Deep.QuietTactic
import Derived.BigQuiet
namespace Go.Proofs.Ytkgacehnpdijaaa
set_option linter.unusedVariables false
set_option linter.unusedSimpArgs false
open Go.RowKit Wire

def AtV (u : World) (mm aa : Nat) (sl : Value) (v : Vr) : Prop :=
  u.cell? ⟨mm, 6, none⟩ = some sl ∧ u.cell? ⟨aa, 0, none⟩ = some (.string v.key) ∧ u.cell? ⟨aa, 1, none⟩ = some (.string v.val) ∧ u.cell? ⟨aa, 2, none⟩ = some (.bool v.gone) ∧ u.cell? ⟨aa, 3, none⟩ = some (.int .u64 v.ts) ∧ u.cell? ⟨aa, 4, none⟩ = some (.int .i64 v.dc) ∧ u.cell? ⟨aa, 5, none⟩ = some (.int .i64 v.tx)
theorem atV {u : World} {mm aa : Nat} {t t' : TypeId} {m : Ms} {A : Option Addr} {c : Nat} {vA : Option Addr} {vc : Nat} {v : Vr} (h : Blk u mm t (mcells m A c vA vc)) (ha : Blk u aa t' (vcs v).toArray) : AtV u mm aa (.slice A m.vers.length c) v :=
  ⟨h.cell 6, ha.cell 0, ha.cell 1, ha.cell 2, ha.cell 3, ha.cell 4, ha.cell 5⟩
set_option maxHeartbeats 8000000 in
set_option maxRecDepth 20000 in
theorem r_newer (kd : Int) (R B mm : Nat) (b : List UInt8) (w : World) (hr : RAt w R B b) (hm : Blk w mm 28 (mcells (mkMs kd zParts) none 0 none 0)) (hne : mm ≠ R) (hBm : B ≤ mm) :
    Calls Try.prog 40 #[.pointer (some ⟨R, 0, none⟩), .pointer (some ⟨mm, 0, none⟩)] w (PtOut newRd kd R B mm b w) := by
  have HF1 : Hid (∀ u b, RAt u R B b → Calls Try.prog 37 #[.pointer (some ⟨R, 0, none⟩), .int .i64 1] u (RdOut (fixC 1).rd (Value.int .u64) R B b u)) := fun u b h => r_fixed R B 1 b u h (by omega) (by omega)
  have HUV : Hid (∀ u b, RAt u R B b → Calls Try.prog 61 #[.pointer (some ⟨R, 0, none⟩)] u (RdOut uvC.rd (Value.int .u64) R B b u)) := fun u b h => r_uvar R B b u h
  have HT16 : Hid (∀ u b, RAt u R B b → Calls Try.prog 62 #[.pointer (some ⟨R, 0, none⟩), .int .i64 16] u (RdOut (textC uvC 16).rd Value.string R B b u)) := fun u b h => r_text R B 16 b u h (by omega) (by omega)
  have HT64 : Hid (∀ u b, RAt u R B b → Calls Try.prog 62 #[.pointer (some ⟨R, 0, none⟩), .int .i64 64] u (RdOut (textC uvC 64).rd Value.string R B b u)) := fun u b h => r_text R B 64 b u h (by omega) (by omega)
  have HFL : Hid (∀ u b, RAt u R B b → Calls Try.prog 60 #[.pointer (some ⟨R, 0, none⟩)] u (RdOut goneC.rd Value.bool R B b u)) := fun u b h => r_flag R B b u h
  have HE0 : Hid (newRd b = mapE (fun p => p.2) ((seqC (fixC 1) newC).rd b)) := hide rfl
  have HR0 := hide hr
  have HM0 := hide hm
  have HO0 := hide (Only.refl (fun k => k = R ∨ k = mm) w)
  have hml := hm.lt
  have hRw0 := hr.lt
  obtain ⟨i0, hi, hz0, hz1, hz2⟩ := info_parts verinfo
  obtain ⟨j0, hj, hj0, hj1, hj2⟩ := info_parts u64info
  clear hr hm
  go_enter Try.func40, Try.ntmps40
  go_wp2_with (first
    | (go_at_call 37; (with_reducible refine Calls.mono (unhide HF1 _ _ (unhide HR0)) ?_); go_must ((
       rintro _ u1 hout
       rcases hout with ⟨er, h, rfl, ho⟩ | ⟨M, r1, h, rfl, hr, ho⟩
       · unfold gaveUp
         go_wp2_with fail
         exact ⟨rfl, .inl ⟨er, (unhide HE0).trans (seq_err h), rfl, ⟨_, (unhide HM0).only ho (fun e => hne e), by rfl⟩, (unhide HO0).trans (only_R ho)⟩⟩
       have hM0 := ((fix_law 1).bwd _ _ _ h).1.1
       have hM1 : M < 256 := ((fix_law 1).bwd _ _ _ h).1.2
       have HE1 := hide ((unhide HE0).trans (seq_ok (d := newC) h))
       have HR1 := hide hr
       have HM1 := hide ((unhide HM0).only ho (fun e => hne e))
       have hml1 := (unhide HM1).lt
       have HO1 := hide ((unhide HO0).trans (only_R ho))
       clear h hr ho))))
  go_quiet (fail)
  go_wp2_with fail
  go_loopw [27] (fun i wr => ∃ (k : Nat) (n1 n2 n3 : Int) (bb : List UInt8), k ≤ 3 ∧ i = .int .i64 k ∧ RAt wr R B bb ∧ Blk wr mm 28 (mcells (mkMs kd (n1, n2, n3, ByteArray.empty, ByteArray.empty, [], [], Wire.cmd0)) none 0 none 0) ∧ Only (fun k => k = R ∨ k = mm) w wr ∧ NumSt M (newRd b) k n1 n2 n3 bb) (fun i _ => 3 - (intOf i).toNat)
  case atStart => exact ⟨0, 0, 0, 0, r1, by omega, rfl, (unhide HR1).drewN _, (unhide HM1).drewN _, (unhide HO1).drewN _, .inl ⟨rfl, rfl, rfl, rfl, unhide HE1⟩⟩
  case round =>
    obtain ⟨k, n1, n2, n3, bb, hk, rfl, hr, hm, ho, hst⟩ := hrel
    clear HR1 HM1 HO1 HE1
    have HR := hide hr; have HM := hide hm; have HO := hide ho
    have hmw := hm.lt
    clear hr hm ho
    by_cases hlt : k < 3
    ·
      -- [n
      have hi0 : (Instr.index 85 (.agg #[.pointer (some ⟨mm, 1, none⟩), .pointer (some ⟨mm, 2, none⟩), .pointer (some ⟨mm, 3, none⟩)]) (.int .i64 0)).run Try.prog wr = .ok (.pointer (some ⟨mm, 1, none⟩)) wr := by kernel_rfl
      have hi1 : (Instr.index 85 (.agg #[.pointer (some ⟨mm, 1, none⟩), .pointer (some ⟨mm, 2, none⟩), .pointer (some ⟨mm, 3, none⟩)]) (.int .i64 1)).run Try.prog wr = .ok (.pointer (some ⟨mm, 2, none⟩)) wr := by kernel_rfl
      have hi2 : (Instr.index 85 (.agg #[.pointer (some ⟨mm, 1, none⟩), .pointer (some ⟨mm, 2, none⟩), .pointer (some ⟨mm, 3, none⟩)]) (.int .i64 2)).run Try.prog wr = .ok (.pointer (some ⟨mm, 3, none⟩)) wr := by kernel_rfl
      obtain rfl | rfl | rfl : k = 0 ∨ k = 1 ∨ k = 2 := by omega
      · rw [show ((0 : Nat) : Int) = 0 from rfl]
        have hst0 : n1 = 0 ∧ n2 = 0 ∧ n3 = 0 ∧ newRd b = mapE (fun p => (p)) ((seqC (oI M 0) fun _ => newC1 M).rd bb) := by
          rcases hst with h | h | h | h
          · exact h.2
          · exact absurd h.1 (by omega)
          · exact absurd h.1 (by omega)
          · exact absurd h.1 (by omega)
        clear hst
        obtain ⟨rfl, rfl, rfl, he⟩ := hst0
        have HE := hide he
        clear he
        rcases Bool.eq_false_or_eq_true (bit M 0) with hb | hb
        · have HB := hide hb
          have hbt : (bits BinOp.and IntKind.u64 (M) 1 == 1) = true := by have h := bit_form hM0 hM1 0 (by omega); simp only [Int.reducePow, Int.pow_zero, Int.ediv_one] at h; exact h.trans hb
          clear hb
          go_wp2_with (first
            | (go_at_call 61; (with_reducible refine Calls.mono (unhide HUV _ _ (unhide HR)) ?_); go_must ((
               rintro _ u1 hout
               rcases hout with ⟨er, h, rfl, ho⟩ | ⟨v1, q1, h, rfl, hr, ho⟩
               · unfold gaveUp
                 go_wp2_with fail
                 exact ⟨rfl, .inl ⟨er, (unhide HE).trans (seq_err (opt_err (unhide HB) h)), rfl, ⟨_, (unhide HM).only ho (fun e => hne e), by rfl⟩, (unhide HO).trans (only_R ho)⟩⟩
               have H1 := hide h
               have hk := (unhide HM).only ho (fun e => hne e)
               have HMs := hide (hk.set_ 1 (.int .u64 v1))
               have HOs := hide (((unhide HO).trans (only_R ho)).setCell (p := ⟨mm, 1, none⟩) (.inr rfl) (.int .u64 v1))
               have HRs := hide (hr.only ((Only.refl (fun k => k = mm) u1).setCell (p := ⟨mm, 1, none⟩) rfl (.int .u64 v1)) (fun k hk => by subst hk; exact ⟨hBm, hne⟩))
               obtain ⟨f0, f1, f2, f3, f4, f5, f6, f7, f8, f9, f10, f11, f12, f13⟩ := mAt hk
               have z := hk.frozen 1
               have hml2 := hk.lt
               clear h hr ho hk hi0 hi1 hi2)))
            | (go_at_call 41; go_must ((
               rcases Bool.eq_false_or_eq_true (nzI v1) with hz | hz
               rotate_left
               · rw [show (v1 != 0) = false from hz]
                 refine Calls.mono (some_bad _ _) ?_
                 rintro _ ux ⟨rfl, rfl⟩
                 unfold gaveUp
                 go_wp2_with fail
                 exact ⟨rfl, .inl ⟨3, (unhide HE).trans (seq_err (opt_zero (unhide HB) (unhide H1) hz)), rfl, ⟨_, unhide HMs, by rfl⟩, unhide HOs⟩⟩
               rw [show (v1 != 0) = true from hz]
               refine Calls.mono (some_ok _ _) ?_
               rintro _ ux ⟨rfl, rfl⟩
               have HEn := hide ((unhide HE).trans (seq_ok (opt_go (unhide HB) (unhide H1) hz)))
               clear hz))))
          exact ⟨⟨1, v1, 0, 0, q1, by omega, rfl, unhide HRs, unhide HMs, unhide HOs, (.inr (.inl ⟨rfl, rfl, rfl, unhide HEn⟩))⟩, by simp [intOf]⟩
        · have HB := hide hb
          have hbt : (bits BinOp.and IntKind.u64 (M) 1 == 1) = false := by have h := bit_form hM0 hM1 0 (by omega); simp only [Int.reducePow, Int.pow_zero, Int.ediv_one] at h; exact h.trans hb
          clear hb
          go_wp2_with fail
          exact ⟨⟨1, 0, 0, 0, bb, by omega, rfl, unhide HR, unhide HM, unhide HO, (.inr (.inl ⟨rfl, rfl, rfl, (unhide HE).trans (seq_ok (opt_no (unhide HB)))⟩))⟩, by simp [intOf]⟩
      · rw [show ((1 : Nat) : Int) = 1 from rfl]
        have hst0 : n2 = 0 ∧ n3 = 0 ∧ newRd b = mapE (fun p => (n1, p)) ((seqC (oI M 1) fun _ => newC2 M).rd bb) := by
          rcases hst with h | h | h | h
          · exact absurd h.1 (by omega)
          · exact h.2
          · exact absurd h.1 (by omega)
          · exact absurd h.1 (by omega)
        clear hst
        obtain ⟨rfl, rfl, he⟩ := hst0
        have HE := hide he
        clear he
        rcases Bool.eq_false_or_eq_true (bit M 1) with hb | hb
        · have HB := hide hb
          have hbt : (bits BinOp.and IntKind.u64 (M / 2) 1 == 1) = true := by have h := bit_form hM0 hM1 1 (by omega); simp only [Int.reducePow, Int.pow_zero, Int.ediv_one] at h; exact h.trans hb
          clear hb
          go_wp2_with (first
            | (go_at_call 61; (with_reducible refine Calls.mono (unhide HUV _ _ (unhide HR)) ?_); go_must ((
               rintro _ u1 hout
               rcases hout with ⟨er, h, rfl, ho⟩ | ⟨v1, q1, h, rfl, hr, ho⟩
               · unfold gaveUp
                 go_wp2_with fail
                 exact ⟨rfl, .inl ⟨er, (unhide HE).trans (seq_err (opt_err (unhide HB) h)), rfl, ⟨_, (unhide HM).only ho (fun e => hne e), by rfl⟩, (unhide HO).trans (only_R ho)⟩⟩
               have H1 := hide h
               have hk := (unhide HM).only ho (fun e => hne e)
               have HMs := hide (hk.set_ 2 (.int .u64 v1))
               have HOs := hide (((unhide HO).trans (only_R ho)).setCell (p := ⟨mm, 2, none⟩) (.inr rfl) (.int .u64 v1))
               have HRs := hide (hr.only ((Only.refl (fun k => k = mm) u1).setCell (p := ⟨mm, 2, none⟩) rfl (.int .u64 v1)) (fun k hk => by subst hk; exact ⟨hBm, hne⟩))
               obtain ⟨f0, f1, f2, f3, f4, f5, f6, f7, f8, f9, f10, f11, f12, f13⟩ := mAt hk
               have z := hk.frozen 2
               have hml2 := hk.lt
               clear h hr ho hk hi0 hi1 hi2)))
            | (go_at_call 41; go_must ((
               rcases Bool.eq_false_or_eq_true (nzI v1) with hz | hz
               rotate_left
               · rw [show (v1 != 0) = false from hz]
                 refine Calls.mono (some_bad _ _) ?_
                 rintro _ ux ⟨rfl, rfl⟩
                 unfold gaveUp
                 go_wp2_with fail
                 exact ⟨rfl, .inl ⟨3, (unhide HE).trans (seq_err (opt_zero (unhide HB) (unhide H1) hz)), rfl, ⟨_, unhide HMs, by rfl⟩, unhide HOs⟩⟩
               rw [show (v1 != 0) = true from hz]
               refine Calls.mono (some_ok _ _) ?_
               rintro _ ux ⟨rfl, rfl⟩
               have HEn := hide ((unhide HE).trans (seq_ok (opt_go (unhide HB) (unhide H1) hz)))
               clear hz))))
          exact ⟨⟨2, n1, v1, 0, q1, by omega, rfl, unhide HRs, unhide HMs, unhide HOs, (.inr (.inr (.inl ⟨rfl, rfl, unhide HEn⟩)))⟩, by simp [intOf]⟩
        · have HB := hide hb
          have hbt : (bits BinOp.and IntKind.u64 (M / 2) 1 == 1) = false := by have h := bit_form hM0 hM1 1 (by omega); simp only [Int.reducePow, Int.pow_zero, Int.ediv_one] at h; exact h.trans hb
          clear hb
          go_wp2_with fail
          exact ⟨⟨2, n1, 0, 0, bb, by omega, rfl, unhide HR, unhide HM, unhide HO, (.inr (.inr (.inl ⟨rfl, rfl, (unhide HE).trans (seq_ok (opt_no (unhide HB)))⟩)))⟩, by simp [intOf]⟩
      · rw [show ((2 : Nat) : Int) = 2 from rfl]
        have hst0 : n3 = 0 ∧ newRd b = mapE (fun p => (n1, n2, p)) ((seqC (oI M 2) fun _ => newC3 M).rd bb) := by
          rcases hst with h | h | h | h
          · exact absurd h.1 (by omega)
          · exact absurd h.1 (by omega)
          · exact h.2
          · exact absurd h.1 (by omega)
        clear hst
        obtain ⟨rfl, he⟩ := hst0
        have HE := hide he
        clear he
        rcases Bool.eq_false_or_eq_true (bit M 2) with hb | hb
        · have HB := hide hb
          have hbt : (bits BinOp.and IntKind.u64 (M / 4) 1 == 1) = true := by have h := bit_form hM0 hM1 2 (by omega); simp only [Int.reducePow, Int.pow_zero, Int.ediv_one] at h; exact h.trans hb
          clear hb
          go_wp2_with (first
            | (go_at_call 61; (with_reducible refine Calls.mono (unhide HUV _ _ (unhide HR)) ?_); go_must ((
               rintro _ u1 hout
               rcases hout with ⟨er, h, rfl, ho⟩ | ⟨v1, q1, h, rfl, hr, ho⟩
               · unfold gaveUp
                 go_wp2_with fail
                 exact ⟨rfl, .inl ⟨er, (unhide HE).trans (seq_err (opt_err (unhide HB) h)), rfl, ⟨_, (unhide HM).only ho (fun e => hne e), by rfl⟩, (unhide HO).trans (only_R ho)⟩⟩
               have H1 := hide h
               have hk := (unhide HM).only ho (fun e => hne e)
               have HMs := hide (hk.set_ 3 (.int .u64 v1))
               have HOs := hide (((unhide HO).trans (only_R ho)).setCell (p := ⟨mm, 3, none⟩) (.inr rfl) (.int .u64 v1))
               have HRs := hide (hr.only ((Only.refl (fun k => k = mm) u1).setCell (p := ⟨mm, 3, none⟩) rfl (.int .u64 v1)) (fun k hk => by subst hk; exact ⟨hBm, hne⟩))
               obtain ⟨f0, f1, f2, f3, f4, f5, f6, f7, f8, f9, f10, f11, f12, f13⟩ := mAt hk
               have z := hk.frozen 3
               have hml2 := hk.lt
               clear h hr ho hk hi0 hi1 hi2)))
            | (go_at_call 41; go_must ((
               rcases Bool.eq_false_or_eq_true (nzI v1) with hz | hz
               rotate_left
               · rw [show (v1 != 0) = false from hz]
                 refine Calls.mono (some_bad _ _) ?_
                 rintro _ ux ⟨rfl, rfl⟩
                 unfold gaveUp
                 go_wp2_with fail
                 exact ⟨rfl, .inl ⟨3, (unhide HE).trans (seq_err (opt_zero (unhide HB) (unhide H1) hz)), rfl, ⟨_, unhide HMs, by rfl⟩, unhide HOs⟩⟩
               rw [show (v1 != 0) = true from hz]
               refine Calls.mono (some_ok _ _) ?_
               rintro _ ux ⟨rfl, rfl⟩
               have HEn := hide ((unhide HE).trans (seq_ok (opt_go (unhide HB) (unhide H1) hz)))
               clear hz))))
          exact ⟨⟨3, n1, n2, v1, q1, by omega, rfl, unhide HRs, unhide HMs, unhide HOs, (.inr (.inr (.inr (⟨rfl, unhide HEn⟩))))⟩, by simp [intOf]⟩
        · have HB := hide hb
          have hbt : (bits BinOp.and IntKind.u64 (M / 4) 1 == 1) = false := by have h := bit_form hM0 hM1 2 (by omega); simp only [Int.reducePow, Int.pow_zero, Int.ediv_one] at h; exact h.trans hb
          clear hb
          go_wp2_with fail
          exact ⟨⟨3, n1, n2, 0, bb, by omega, rfl, unhide HR, unhide HM, unhide HO, (.inr (.inr (.inr (⟨rfl, (unhide HE).trans (seq_ok (opt_no (unhide HB)))⟩))))⟩, by simp [intOf]⟩
      -- n]
    ·
      obtain ⟨w3, rfl⟩ : ∃ u, u = wr := ⟨_, rfl⟩
      have hst0 : newRd b = mapE (fun p => (n1, n2, n3, p)) ((newC3 M).rd bb) := by
        rcases hst with h | h | h | h
        · exact absurd h.1 (by omega)
        · exact absurd h.1 (by omega)
        · exact absurd h.1 (by omega)
        · exact h.2
      have HE3 := hide hst0
      have hk3 : k = 3 := by omega
      subst hk3
      clear hst hst0 hlt hk
      rw [show ((3 : Nat) : Int) = 3 from rfl]
      go_upto_region 8 with fail
      go_quiet (fail)
      go_wp2_with fail
      go_loopw [54] (fun i wr => ∃ (k : Nat) (s1 s2 : ByteArray) (bb : List UInt8), k ≤ 2 ∧ i = .int .i64 k ∧ RAt wr R B bb ∧ Blk wr mm 28 (mcells (mkMs kd (n1, n2, n3, s1, s2, [], [], Wire.cmd0)) none 0 none 0) ∧ Only (fun k => k = R ∨ k = mm) w wr ∧ TxtSt M (newRd b) n1 n2 n3 k s1 s2 bb) (fun i _ => 2 - (intOf i).toNat)
      case atStart => exact ⟨0, ByteArray.empty, ByteArray.empty, bb, by omega, rfl, (unhide HR).drewN _, (unhide HM).drewN _, (unhide HO).drewN _, .inl ⟨rfl, rfl, rfl, unhide HE3⟩⟩
      case round =>
        clear HR HM HO HE3
        obtain ⟨k, s1, s2, bb, hk, rfl, hr, hm, ho, hst⟩ := hrel
        have HR := hide hr; have HM := hide hm; have HO := hide ho
        have hmw := hm.lt
        clear hr hm ho
        by_cases hlt : k < 2
        ·
          -- [t
          have hi0 : (Instr.index 88 (.agg #[.pointer (some ⟨mm, 4, none⟩), .pointer (some ⟨mm, 5, none⟩)]) (.int .i64 0)).run Try.prog wr = .ok (.pointer (some ⟨mm, 4, none⟩)) wr := by kernel_rfl
          have hi1 : (Instr.index 88 (.agg #[.pointer (some ⟨mm, 4, none⟩), .pointer (some ⟨mm, 5, none⟩)]) (.int .i64 1)).run Try.prog wr = .ok (.pointer (some ⟨mm, 5, none⟩)) wr := by kernel_rfl
          obtain rfl | rfl : k = 0 ∨ k = 1 := by omega
          · rw [show ((0 : Nat) : Int) = 0 from rfl]
            have hst0 : s1 = ByteArray.empty ∧ s2 = ByteArray.empty ∧ newRd b = mapE (fun p => (n1, n2, n3, p)) ((seqC (oS M 3) fun _ => newC4 M).rd bb) := by
              rcases hst with h | h | h
              · exact h.2
              · exact absurd h.1 (by omega)
              · exact absurd h.1 (by omega)
            clear hst
            obtain ⟨rfl, rfl, he⟩ := hst0
            have HE := hide he
            clear he
            rcases Bool.eq_false_or_eq_true (bit M 3) with hb | hb
            · have HB := hide hb
              have hbt : (bits BinOp.and IntKind.u64 (M / 8) 1 == 1) = true := by have h := bit_form hM0 hM1 3 (by omega); simp only [Int.reducePow, Int.pow_zero, Int.ediv_one] at h; exact h.trans hb
              clear hb
              go_wp2_with (first
                | (go_at_call 62; (with_reducible refine Calls.mono (unhide HT16 _ _ (unhide HR)) ?_); go_must ((
                   rintro _ u1 hout
                   rcases hout with ⟨er, h, rfl, ho⟩ | ⟨v1, q1, h, rfl, hr, ho⟩
                   · unfold gaveUp
                     go_wp2_with fail
                     exact ⟨rfl, .inl ⟨er, (unhide HE).trans (seq_err (opt_err (unhide HB) h)), rfl, ⟨_, (unhide HM).only ho (fun e => hne e), by rfl⟩, (unhide HO).trans (only_R ho)⟩⟩
                   have H1 := hide h
                   have hk := (unhide HM).only ho (fun e => hne e)
                   have HMs := hide (hk.set_ 4 (.string v1))
                   have HOs := hide (((unhide HO).trans (only_R ho)).setCell (p := ⟨mm, 4, none⟩) (.inr rfl) (.string v1))
                   have HRs := hide (hr.only ((Only.refl (fun k => k = mm) u1).setCell (p := ⟨mm, 4, none⟩) rfl (.string v1)) (fun k hk => by subst hk; exact ⟨hBm, hne⟩))
                   obtain ⟨f0, f1, f2, f3, f4, f5, f6, f7, f8, f9, f10, f11, f12, f13⟩ := mAt hk
                   have z := hk.frozen 4
                   have hml2 := hk.lt
                   clear h hr ho hk hi0 hi1)))
                | (go_at_call 41; go_must ((
                   rcases Bool.eq_false_or_eq_true (nzS v1) with hz | hz
                   rotate_left
                   · rw [show (!v1.toList.isEmpty) = false from (strB v1).trans hz]
                     refine Calls.mono (some_bad _ _) ?_
                     rintro _ ux ⟨rfl, rfl⟩
                     unfold gaveUp
                     go_wp2_with fail
                     exact ⟨rfl, .inl ⟨3, (unhide HE).trans (seq_err (opt_zero (unhide HB) (unhide H1) hz)), rfl, ⟨_, unhide HMs, by rfl⟩, unhide HOs⟩⟩
                   rw [show (!v1.toList.isEmpty) = true from (strB v1).trans hz]
                   refine Calls.mono (some_ok _ _) ?_
                   rintro _ ux ⟨rfl, rfl⟩
                   have HEn := hide ((unhide HE).trans (seq_ok (opt_go (unhide HB) (unhide H1) hz)))
                   clear hz))))
              exact ⟨⟨1, v1, ByteArray.empty, q1, by omega, rfl, unhide HRs, unhide HMs, unhide HOs, (.inr (.inl ⟨rfl, rfl, unhide HEn⟩))⟩, by simp [intOf]⟩
            · have HB := hide hb
              have hbt : (bits BinOp.and IntKind.u64 (M / 8) 1 == 1) = false := by have h := bit_form hM0 hM1 3 (by omega); simp only [Int.reducePow, Int.pow_zero, Int.ediv_one] at h; exact h.trans hb
              clear hb
              go_wp2_with fail
              exact ⟨⟨1, ByteArray.empty, ByteArray.empty, bb, by omega, rfl, unhide HR, unhide HM, unhide HO, (.inr (.inl ⟨rfl, rfl, (unhide HE).trans (seq_ok (opt_no (unhide HB)))⟩))⟩, by simp [intOf]⟩
          · rw [show ((1 : Nat) : Int) = 1 from rfl]
            have hst0 : s2 = ByteArray.empty ∧ newRd b = mapE (fun p => (n1, n2, n3, s1, p)) ((seqC (oS M 4) fun _ => newC5 M).rd bb) := by
              rcases hst with h | h | h
              · exact absurd h.1 (by omega)
              · exact h.2
              · exact absurd h.1 (by omega)
            clear hst
            obtain ⟨rfl, he⟩ := hst0
            have HE := hide he
            clear he
            rcases Bool.eq_false_or_eq_true (bit M 4) with hb | hb
            · have HB := hide hb
              have hbt : (bits BinOp.and IntKind.u64 (M / 16) 1 == 1) = true := by have h := bit_form hM0 hM1 4 (by omega); simp only [Int.reducePow, Int.pow_zero, Int.ediv_one] at h; exact h.trans hb
              clear hb
              go_wp2_with (first
                | (go_at_call 62; (with_reducible refine Calls.mono (unhide HT16 _ _ (unhide HR)) ?_); go_must ((
                   rintro _ u1 hout
                   rcases hout with ⟨er, h, rfl, ho⟩ | ⟨v1, q1, h, rfl, hr, ho⟩
                   · unfold gaveUp
                     go_wp2_with fail
                     exact ⟨rfl, .inl ⟨er, (unhide HE).trans (seq_err (opt_err (unhide HB) h)), rfl, ⟨_, (unhide HM).only ho (fun e => hne e), by rfl⟩, (unhide HO).trans (only_R ho)⟩⟩
                   have H1 := hide h
                   have hk := (unhide HM).only ho (fun e => hne e)
                   have HMs := hide (hk.set_ 5 (.string v1))
                   have HOs := hide (((unhide HO).trans (only_R ho)).setCell (p := ⟨mm, 5, none⟩) (.inr rfl) (.string v1))
                   have HRs := hide (hr.only ((Only.refl (fun k => k = mm) u1).setCell (p := ⟨mm, 5, none⟩) rfl (.string v1)) (fun k hk => by subst hk; exact ⟨hBm, hne⟩))
                   obtain ⟨f0, f1, f2, f3, f4, f5, f6, f7, f8, f9, f10, f11, f12, f13⟩ := mAt hk
                   have z := hk.frozen 5
                   have hml2 := hk.lt
                   clear h hr ho hk hi0 hi1)))
                | (go_at_call 41; go_must ((
                   rcases Bool.eq_false_or_eq_true (nzS v1) with hz | hz
                   rotate_left
                   · rw [show (!v1.toList.isEmpty) = false from (strB v1).trans hz]
                     refine Calls.mono (some_bad _ _) ?_
                     rintro _ ux ⟨rfl, rfl⟩
                     unfold gaveUp
                     go_wp2_with fail
                     exact ⟨rfl, .inl ⟨3, (unhide HE).trans (seq_err (opt_zero (unhide HB) (unhide H1) hz)), rfl, ⟨_, unhide HMs, by rfl⟩, unhide HOs⟩⟩
                   rw [show (!v1.toList.isEmpty) = true from (strB v1).trans hz]
                   refine Calls.mono (some_ok _ _) ?_
                   rintro _ ux ⟨rfl, rfl⟩
                   have HEn := hide ((unhide HE).trans (seq_ok (opt_go (unhide HB) (unhide H1) hz)))
                   clear hz))))
              exact ⟨⟨2, s1, v1, q1, by omega, rfl, unhide HRs, unhide HMs, unhide HOs, (.inr (.inr (⟨rfl, unhide HEn⟩)))⟩, by simp [intOf]⟩
            · have HB := hide hb
              have hbt : (bits BinOp.and IntKind.u64 (M / 16) 1 == 1) = false := by have h := bit_form hM0 hM1 4 (by omega); simp only [Int.reducePow, Int.pow_zero, Int.ediv_one] at h; exact h.trans hb
              clear hb
              go_wp2_with fail
              exact ⟨⟨2, s1, ByteArray.empty, bb, by omega, rfl, unhide HR, unhide HM, unhide HO, (.inr (.inr (⟨rfl, (unhide HE).trans (seq_ok (opt_no (unhide HB)))⟩)))⟩, by simp [intOf]⟩
          -- t]
        ·
          obtain ⟨w5, rfl⟩ : ∃ u, u = wr := ⟨_, rfl⟩
          have hst0 : newRd b = mapE (fun p => (n1, n2, n3, s1, s2, p)) ((newC5 M).rd bb) := by
            rcases hst with h | h | h
            · exact absurd h.1 (by omega)
            · exact absurd h.1 (by omega)
            · exact h.2
          have HE5 := hide hst0
          have hk2 : k = 2 := by omega
          subst hk2
          clear hst hst0 hlt hk
          rw [show ((2 : Nat) : Int) = 2 from rfl]
          go_upto_if 78 with fail
          go_cut [] (fun u => ∃ (acc : List Vr) (A : Option Addr) (c : Nat) (b6 : List UInt8), RAt u R B b6 ∧ Blk u mm 28 (mcells (mkMs kd (n1, n2, n3, s1, s2, acc, [], Wire.cmd0)) A c none 0) ∧ u.ownsRow w.heap.size 49 6 (.slice A acc.length c) acc.length (vrow acc) ∧ Only (fun k => k = R ∨ k = mm) w u ∧ newRd b = mapE (fun p => (n1, n2, n3, s1, s2, acc, p)) ((newC6 M).rd b6))
          case first =>
            -- [q5
            rcases Bool.eq_false_or_eq_true (bit M 5) with hb | hb
            rotate_left
            · have HB := hide hb
              have hbt : (bits BinOp.and IntKind.u64 (M / 32) 1 == 1) = false := by have h := bit_form hM0 hM1 5 (by omega); simp only [Int.reducePow, Int.pow_zero, Int.ediv_one] at h; exact h.trans hb
              clear hb
              go_wp2_with fail
              go_meet
              case rel => exact ⟨[], none, 0, bb, unhide HR, unhide HM, own_nil _ _ _ _, unhide HO, (unhide HE5).trans (seq_ok (opt_no (unhide HB)))⟩
            · have HB := hide hb
              have hbt : (bits BinOp.and IntKind.u64 (M / 32) 1 == 1) = true := by have h := bit_form hM0 hM1 5 (by omega); simp only [Int.reducePow, Int.pow_zero, Int.ediv_one] at h; exact h.trans hb
              clear hb
              go_wp2_with (first
                | (go_at_call 61; (with_reducible refine Calls.mono (unhide HUV _ _ (unhide HR)) ?_); go_must ((
                   rintro _ y8 hout
                   rcases hout with ⟨er, h, rfl, ho⟩ | ⟨n8, r8, h, rfl, hr, ho⟩
                   · unfold gaveUp
                     go_wp2_with fail
                     exact ⟨rfl, .inl ⟨er, (unhide HE5).trans (seq_err (opt_err (unhide HB) (row_err (most_err h)))), rfl, ⟨_, (unhide HM).only ho (fun e => hne e), by rfl⟩, (unhide HO).trans (only_R ho)⟩⟩
                   have h80 := (uv_law.bwd _ _ _ h).1.1
                   have H8 := hide h
                   have HR8 := hide hr
                   have HM8 := hide ((unhide HM).only ho (fun e => hne e))
                   have HO8 := hide ((unhide HO).trans (only_R ho))
                   clear h hr ho)))
                | (go_at_call 59; (with_reducible refine Calls.mono (least_or _ n8 4096 6 _ h80 (by omega) (by omega) (by omega)) ?_); go_must ((
                   rintro _ ux (⟨hn, rfl, rfl⟩ | ⟨hn, rfl, rfl⟩)
                   · unfold gaveUp
                     go_wp2_with fail
                     exact ⟨rfl, .inl ⟨6, (unhide HE5).trans (seq_err (opt_err (unhide HB) (row_err (most_long (unhide H8) hn)))), rfl, ⟨_, unhide HM8, by rfl⟩, unhide HO8⟩⟩
                   have HROW : Hid ((verRow (fun _ => uvC) true).rd bb = rdL (verC (fun _ => uvC) true) (fun v => v.ts) n8.toNat 0 r8) := hide (row_rd (c := verC (fun _ => uvC) true) (next := fun v => v.ts) (s := 0) (most_go (unhide H8) h80 (by omega)))
                   obtain ⟨N, rfl⟩ := Int.eq_ofNat_of_zero_le h80
                   have hN : N ≤ 4096 := by omega
                   clear hn)))
                | (go_at_call 41; go_must ((
                   by_cases hz : N = 0
                   · rw [show decide (0 < N) = false from decide_eq_false (by omega)]
                     refine Calls.mono (some_bad _ _) ?_
                     rintro _ ux ⟨rfl, rfl⟩
                     unfold gaveUp
                     go_wp2_with fail
                     have hr0 := unhide HROW
                     rw [hz] at hr0
                     exact ⟨rfl, .inl ⟨3, (unhide HE5).trans (seq_err (opt_zero (unhide HB) hr0 rfl)), rfl, ⟨_, unhide HM8, by rfl⟩, unhide HO8⟩⟩
                   rw [show decide (0 < N) = true from decide_eq_true (by omega)]
                   refine Calls.mono (some_ok _ _) ?_
                   rintro _ ux ⟨rfl, rfl⟩
                   have hNp : 0 < N := by omega
                   clear hz))))
              go_loopw [10, 88] (fun last i wr => ∃ (k : Nat) (acc : List Vr) (b7 : List UInt8) (A : Option Addr) (c : Nat), k ≤ N ∧ i = .int .i64 k ∧ last = .int .u64 (lastOr 0 acc) ∧ acc.length = k ∧ RAt wr R B b7 ∧ Blk wr mm 28 (mcells (mkMs kd (n1, n2, n3, s1, s2, acc, [], Wire.cmd0)) A c none 0) ∧ wr.ownsRow w.heap.size 49 6 (.slice A acc.length c) acc.length (vrow acc) ∧ Only (fun k => k = R ∨ k = mm) w wr ∧ (verRow (fun _ => uvC) true).rd bb = mapE (fun l => acc ++ l) (rdL (verC (fun _ => uvC) true) (fun v => v.ts) (N - k) (lastOr 0 acc) b7)) (fun _ i _ => N - (intOf i).toNat)
              case atStart => exact ⟨0, [], r8, none, 0, by omega, rfl, rfl, rfl, unhide HR8, unhide HM8, own_nil _ _ _ _, unhide HO8, (unhide HROW).trans (mapE_id _).symm⟩
              case round =>
                obtain ⟨k, acc, b7, A, c, hk, rfl, rfl, hacc, hr, hm, hown, ho, hrow⟩ := hrel
                clear HR8 HM8 HO8 HROW H8
                have HR8 := hide hr; have HM8 := hide hm; have HW8 := hide hown; have HO8 := hide ho; have HROW := hide hrow
                have HACC := hide hacc
                clear hr hm hown ho hrow hacc
                by_cases hlt : k < N
                ·
                  -- [v
                  obtain ⟨s, hs⟩ : ∃ s, lastOr 0 acc = s := ⟨_, rfl⟩
                  obtain ⟨N1, hN1⟩ : ∃ x, N - k = x + 1 := ⟨N - k - 1, by omega⟩
                  rw [hs]
                  rw [hs, hN1] at HROW
                  have HS := hide hs
                  clear hs
                  have hal : acc.length ≤ 4096 := by rw [unhide HACC]; omega
                  have HBAD : Hid (∀ er, (verC (fun _ => uvC) true s).rd b7 = .error er → newRd b = .error er) := hide (fun er h => (unhide HE5).trans (seq_err (opt_err (unhide HB) ((unhide HROW).trans (list_err h)))))
                  have HV0 : Hid ((verC (fun _ => uvC) true s).rd b7 = mapE (fun p => (⟨p.1, p.2.1, p.2.2.1, p.2.2.2.1, p.2.2.2.2.1, p.2.2.2.2.2⟩ : Vr)) ((seqC (textC uvC 16) fun _ => seqC (textC uvC 64) fun _ => seqC goneC fun _ => seqC (stampC uvC s) fun _ => seqC (most uvC 3 1) fun _ => most uvC 1073741824 1).rd b7)) := hide iso_rd
                  have VR0 := HR8
                  have VM0 := HM8
                  have VO0 := HO8
                  have VW0 := HW8
                  go_upto_region 22 with (first
                    | (go_at_call 59; (with_reducible refine Calls.mono (least_or _ v6 1073741824 1 _ hv60 (by omega) (by omega) (by omega)) ?_); go_must ((
                       rintro _ ux (⟨hn, rfl, rfl⟩ | ⟨hn, rfl, rfl⟩)
                       · unfold gaveUp
                         go_wp2_with fail
                         exact ⟨rfl, .inl ⟨1, unhide HBAD 1 ((unhide HV5).trans (end_err (most_long (unhide H6) hn))), rfl, ⟨_, unhide VM6, by rfl⟩, unhide VO6⟩⟩
                       have HVV := hide ((unhide HV5).trans (end_ok (c := most uvC 1073741824 1) (most_go (c := uvC) (unhide H6) hv60 (by omega))))
                       clear hn)))
                    | (go_at_call 61; (with_reducible refine Calls.mono (unhide HUV _ _ (unhide VR5)) ?_); go_must ((
                       rintro _ x6 hout
                       rcases hout with ⟨er, h, rfl, ho⟩ | ⟨v6, q6, h, rfl, hr, ho⟩
                       · unfold gaveUp
                         go_wp2_with fail
                         exact ⟨rfl, .inl ⟨er, unhide HBAD er ((unhide HV5).trans (end_err (c := most uvC 1073741824 1) (most_err (c := uvC) h))), rfl, ⟨_, (unhide VM5).only ho (fun e => hne e), by rfl⟩, (unhide VO5).trans (only_R ho)⟩⟩
                       have hv60 := (uv_law.bwd _ _ _ h).1.1
                       have H6 := hide h
                       have VR6 := hide hr
                       have VM6 := hide ((unhide VM5).only ho (fun e => hne e))
                       have VO6 := hide ((unhide VO5).trans (only_R ho))
                       have VW6 := hide (own_only (unhide VW5) ho (fun k hk e => by have := ((unhide VW5).lt k hk).1; omega))
                       clear h hr ho)))
                    | (go_at_call 59; (with_reducible refine Calls.mono (least_or _ v5 3 1 _ hv50 (by omega) (by omega) (by omega)) ?_); go_must ((
                       rintro _ ux (⟨hn, rfl, rfl⟩ | ⟨hn, rfl, rfl⟩)
                       · unfold gaveUp
                         go_wp2_with fail
                         exact ⟨rfl, .inl ⟨1, unhide HBAD 1 ((unhide HV4).trans (seq_err (most_long (unhide H5) hn))), rfl, ⟨_, unhide VM5, by rfl⟩, unhide VO5⟩⟩
                       have HV5 := hide ((unhide HV4).trans (seq_ok (most_go (unhide H5) hv50 (by omega))))
                       clear hn)))
                    | (go_at_call 61; (with_reducible refine Calls.mono (unhide HUV _ _ (unhide VR4)) ?_); go_must ((
                       rintro _ x5 hout
                       rcases hout with ⟨er, h, rfl, ho⟩ | ⟨v5, q5, h, rfl, hr, ho⟩
                       · unfold gaveUp
                         go_wp2_with fail
                         exact ⟨rfl, .inl ⟨er, unhide HBAD er ((unhide HV4).trans (seq_err (most_err h))), rfl, ⟨_, (unhide VM4).only ho (fun e => hne e), by rfl⟩, (unhide VO4).trans (only_R ho)⟩⟩
                       have hv50 := (uv_law.bwd _ _ _ h).1.1
                       have H5 := hide h
                       have VR5 := hide hr
                       have VM5 := hide ((unhide VM4).only ho (fun e => hne e))
                       have VO5 := hide ((unhide VO4).trans (only_R ho))
                       have VW5 := hide (own_only (unhide VW4) ho (fun k hk e => by have := ((unhide VW4).lt k hk).1; omega))
                       clear h hr ho)))
                    | (go_at_call 61; (with_reducible refine Calls.mono (unhide HUV _ _ (unhide VR3)) ?_); go_must ((
                       rintro _ x4 hout
                       rcases hout with ⟨er, h, rfl, ho⟩ | ⟨v4, q4, h, rfl, hr, ho⟩
                       · unfold gaveUp
                         go_wp2_with fail
                         exact ⟨rfl, .inl ⟨er, unhide HBAD er ((unhide HV3).trans (seq_err (stamp_err h))), rfl, ⟨_, (unhide VM3).only ho (fun e => hne e), by rfl⟩, (unhide VO3).trans (only_R ho)⟩⟩
                       have hv40 := (uv_law.bwd _ _ _ h).1
                       obtain ⟨ts, hts⟩ : ∃ t, (v4 + s) % 18446744073709551616 = t := ⟨_, rfl⟩
                       have hst4 := stamp_ok (s := s) h hv40.1 hv40.2
                       rw [hts] at hst4
                       have e3 : IntKind.u64.wrap (v4 + s) = ts := by rw [IntKind.wrap_u64]; exact hts
                       have HV4 := hide ((unhide HV3).trans (seq_ok hst4))
                       clear hv40 hts hst4
                       have VR4 := hide hr
                       have VM4 := hide ((unhide VM3).only ho (fun e => hne e))
                       have VO4 := hide ((unhide VO3).trans (only_R ho))
                       have VW4 := hide (own_only (unhide VW3) ho (fun k hk e => by have := ((unhide VW3).lt k hk).1; omega))
                       clear h hr ho)))
                    | (go_at_call 60; (with_reducible refine Calls.mono (unhide HFL _ _ (unhide VR2)) ?_); go_must ((
                       rintro _ x3 hout
                       rcases hout with ⟨er, h, rfl, ho⟩ | ⟨v3, q3, h, rfl, hr, ho⟩
                       · unfold gaveUp
                         go_wp2_with fail
                         exact ⟨rfl, .inl ⟨er, unhide HBAD er ((unhide HV2).trans (seq_err h)), rfl, ⟨_, (unhide VM2).only ho (fun e => hne e), by rfl⟩, (unhide VO2).trans (only_R ho)⟩⟩
                       have HV3 := hide ((unhide HV2).trans (seq_ok h))
                       have VR3 := hide hr
                       have VM3 := hide ((unhide VM2).only ho (fun e => hne e))
                       have VO3 := hide ((unhide VO2).trans (only_R ho))
                       have VW3 := hide (own_only (unhide VW2) ho (fun k hk e => by have := ((unhide VW2).lt k hk).1; omega))
                       clear h hr ho)))
                    | (go_at_call 62; (with_reducible refine Calls.mono (unhide HT64 _ _ (unhide VR1)) ?_); go_must ((
                       rintro _ x2 hout
                       rcases hout with ⟨er, h, rfl, ho⟩ | ⟨v2, q2, h, rfl, hr, ho⟩
                       · unfold gaveUp
                         go_wp2_with fail
                         exact ⟨rfl, .inl ⟨er, unhide HBAD er ((unhide HV1).trans (seq_err h)), rfl, ⟨_, (unhide VM1).only ho (fun e => hne e), by rfl⟩, (unhide VO1).trans (only_R ho)⟩⟩
                       have HV2 := hide ((unhide HV1).trans (seq_ok h))
                       have VR2 := hide hr
                       have VM2 := hide ((unhide VM1).only ho (fun e => hne e))
                       have VO2 := hide ((unhide VO1).trans (only_R ho))
                       have VW2 := hide (own_only (unhide VW1) ho (fun k hk e => by have := ((unhide VW1).lt k hk).1; omega))
                       clear h hr ho)))
                    | (go_at_call 62; (with_reducible refine Calls.mono (unhide HT16 _ _ (unhide VR0)) ?_); go_must ((
                       rintro _ x1 hout
                       rcases hout with ⟨er, h, rfl, ho⟩ | ⟨v1, q1, h, rfl, hr, ho⟩
                       · unfold gaveUp
                         go_wp2_with fail
                         exact ⟨rfl, .inl ⟨er, unhide HBAD er ((unhide HV0).trans (seq_err h)), rfl, ⟨_, (unhide VM0).only ho (fun e => hne e), by rfl⟩, (unhide VO0).trans (only_R ho)⟩⟩
                       have HV1 := hide ((unhide HV0).trans (seq_ok h))
                       have VR1 := hide hr
                       have VM1 := hide ((unhide VM0).only ho (fun e => hne e))
                       have VO1 := hide ((unhide VO0).trans (only_R ho))
                       have VW1 := hide (own_only (unhide VW0) ho (fun k hk e => by have := ((unhide VW0).lt k hk).1; omega))
                       clear h hr ho)))
                    )
                  obtain ⟨aa, haa⟩ : ∃ x, x6.heap.size = x := ⟨_, rfl⟩
                  obtain ⟨y6, hy6⟩ : ∃ u, x6.alloc (Obj.cells #[.string v1, .string v2, .bool v3, .int .u64 ts, .int .i64 v5, .int .i64 v6] 49) = u := ⟨_, rfl⟩
                  have hAw : mm < aa := by rw [← haa]; exact (unhide VM6).lt
                  have VRa : Hid (RAt y6.drew R B q6) := hide (by rw [← hy6]; exact ((unhide VR6).only (S := fun _ => False) ((Only.refl _ _).alloc _) (fun _ h => h.elim)).drewN 1)
                  have VMa : Hid (Blk y6.drew mm 28 (mcells (mkMs kd (n1, n2, n3, s1, s2, acc, [], Wire.cmd0)) A c none 0)) := hide (by rw [← hy6]; exact (unhide VM6).alloc _)
                  have VOa : Hid (Only (fun k => k = R ∨ k = mm) w y6.drew) := hide (by rw [← hy6]; exact ((unhide VO6).alloc _).drew)
                  have VWa : Hid (y6.drew.ownsRow w.heap.size 49 6 (.slice A acc.length c) acc.length (vrow acc)) := hide (by rw [← hy6]; exact (unhide VW6).alloc _)
                  have VAa : Hid (Blk y6.drew aa 49 (vcs (⟨v1, v2, v3, ts, v5, v6⟩ : Vr)).toArray) := hide (by rw [← hy6, ← haa]; exact Blk.new x6 _ _)
                  have VLa : Hid (∀ k, (Value.slice A acc.length c).ownBlock = some k → w.heap.size ≤ k ∧ k < aa) := hide (by rw [← haa]; exact fun k hk => (unhide VW6).lt k hk)
                  rw [haa, hy6]
                  have hRw : R < w.heap.size := hRw0
                  clear hy6 e3
                  have g7 : AtV y6.drew mm aa (.slice A acc.length c) (⟨v1, v2, v3, ts, v5, v6⟩ : Vr) := atV (unhide VMa) (unhide VAa)
                  refine wp_region_L 10 (fun u => AtV u mm aa (.slice A acc.length c) (⟨v1, v2, v3, ts, v5, v6⟩ : Vr)) (by kernel_rfl) ?_
                  refine wpAnyL_take (i := 0) (v := ?_) [8,9,10] rfl (by kernel_rfl) (by kernel_rfl) (by kernel_rfl) (by kernel_rfl) (fun _ _ _ h => h) (Or.inl ⟨by kernel_rfl, ?_⟩) (by exact g7) ?_
                  rotate_left
                  · intro u hSu
                    obtain ⟨s0, s1, s2, s3, s4, s5, s6⟩ := hSu
                    go_simp
                    try with_reducible rfl
                  try simp only [Act.put, List.setIfInBounds_toArray, List.set_cons_zero, List.set_cons_succ]
                  refine wpAnyL_take (i := 1) (v := ?_) [2,3,4,7,10] rfl (by kernel_rfl) (by kernel_rfl) (by kernel_rfl) (by kernel_rfl) (fun _ _ _ h => h) (Or.inl ⟨by kernel_rfl, ?_⟩) (by exact g7) ?_
                  rotate_left
                  · intro u hSu
                    obtain ⟨s0, s1, s2, s3, s4, s5, s6⟩ := hSu
                    go_simp
                    try with_reducible rfl
                  try simp only [Act.put, List.setIfInBounds_toArray, List.set_cons_zero, List.set_cons_succ]
                  refine wpAnyL_take (i := 2) (v := ?_) [3,4,7,10] rfl (by kernel_rfl) (by kernel_rfl) (by kernel_rfl) (by kernel_rfl) (fun _ _ _ h => h) (Or.inl ⟨by kernel_rfl, ?_⟩) (by exact g7) ?_
                  rotate_left
                  · intro u hSu
                    obtain ⟨s0, s1, s2, s3, s4, s5, s6⟩ := hSu
                    go_simp
                    try with_reducible rfl
                  try simp only [Act.put, List.setIfInBounds_toArray, List.set_cons_zero, List.set_cons_succ]
                  refine wpAnyL_take (i := 3) (v := ?_) [4,7,10] rfl (by kernel_rfl) (by kernel_rfl) (by kernel_rfl) (by kernel_rfl) (fun _ _ _ h => h) (Or.inl ⟨by kernel_rfl, ?_⟩) (by exact g7) ?_
                  rotate_left
                  · intro u hSu
                    obtain ⟨s0, s1, s2, s3, s4, s5, s6⟩ := hSu
                    go_simp
                    try with_reducible rfl
                  try simp only [Act.put, List.setIfInBounds_toArray, List.set_cons_zero, List.set_cons_succ]
                  refine wpAnyL_take (i := 4) (v := ?_) [7,10] rfl (by kernel_rfl) (by kernel_rfl) (by kernel_rfl) (by kernel_rfl) (fun _ _ _ h => h) (Or.inl ⟨by kernel_rfl, ?_⟩) (by exact g7) ?_
                  rotate_left
                  · intro u hSu
                    obtain ⟨s0, s1, s2, s3, s4, s5, s6⟩ := hSu
                    go_simp
                    try with_reducible rfl
                  try simp only [Act.put, List.setIfInBounds_toArray, List.set_cons_zero, List.set_cons_succ]
                  refine wpAnyL_take (i := 5) (v := ?_) [6,7,10] rfl (by kernel_rfl) (by kernel_rfl) (by kernel_rfl) (by kernel_rfl) (fun _ _ _ h => h) (Or.inl ⟨by kernel_rfl, ?_⟩) (by exact g7) ?_
                  rotate_left
                  · intro u hSu
                    obtain ⟨s0, s1, s2, s3, s4, s5, s6⟩ := hSu
                    go_simp
                    try with_reducible rfl
                  try simp only [Act.put, List.setIfInBounds_toArray, List.set_cons_zero, List.set_cons_succ]
                  refine wpAnyL_one (i := 6) (by kernel_rfl) rfl (fun K hK => ?_)
                  go_simp
                  have g7a : AtV (y6.drew.alloc (Obj.cells #[.string v1, .string v2, .bool v3, .int .u64 ts, .int .i64 v5, .int .i64 v6] 49)) mm aa (.slice A acc.length c) (⟨v1, v2, v3, ts, v5, v6⟩ : Vr) := atV ((unhide VMa).alloc _) ((unhide VAa).alloc _)
                  refine hK.out _ _ (fun _ => g7a) ?_
                  clear hK K
                  try simp only [Act.put, List.setIfInBounds_toArray, List.set_cons_zero, List.set_cons_succ]
                  refine wpAnyL_one (i := 7) (by kernel_rfl) rfl (fun K hK => ?_)
                  refine step_append_any _ rfl (.tmp 113) (.tmp 115) _ rfl w.heap.size 49 i0 _ 6 64 Try.underlying23 hi hz0 hz1 hz2 (by rfl) (by omega) (.slice A acc.length c) acc.length _ (by rfl) ((unhide VWa).alloc _) _ (some ⟨y6.drew.heap.size, 0, none⟩) 1 1 (vcs (⟨v1, v2, v3, ts, v5, v6⟩ : Vr)) (by rfl) (rdV_new y6.drew (vcs (⟨v1, v2, v3, ts, v5, v6⟩ : Vr)).toArray _ _) (by rfl) (vcs_one _) (by simp only [maxLen]; omega) (by omega) (by have := (unhide VOa).size; simp at this ⊢; omega) ?_
                  intro A7 c7 x7 hown7 hg7 hat7 hbel7 hcc7
                  have hb7 := ((unhide VMa).alloc (Obj.cells #[.string v1, .string v2, .bool v3, .int .u64 ts, .int .i64 v5, .int .i64 v6] 49)).grown hg7 (fun e => by have := (unhide VLa mm e.symm).1; omega)
                  have ha7 := ((unhide VAa).alloc (Obj.cells #[.string v1, .string v2, .bool v3, .int .u64 ts, .int .i64 v5, .int .i64 v6] 49)).grown hg7 (fun e => by have := (unhide VLa aa e.symm).2; omega)
                  have g7b : AtV x7 mm aa (.slice A acc.length c) (⟨v1, v2, v3, ts, v5, v6⟩ : Vr) := atV hb7 ha7
                  have z6 := hb7.frozen 6
                  have VM7 := hide hb7
                  have VA7 := hide ha7
                  have VW7 := hide hown7
                  have VG7 := hide hg7
                  clear hown7 hg7 hat7 hbel7 hb7 ha7
                  refine hK.out _ _ (fun _ => g7b) ?_
                  clear hK K
                  try simp only [Act.put, List.setIfInBounds_toArray, List.set_cons_zero, List.set_cons_succ]
                  refine wpAnyL_one (i := 8) (by kernel_rfl) rfl (fun K hK => ?_)
                  go_simp
                  refine hK.out _ _ (fun _ => g7b) ?_
                  clear hK K
                  try simp only [Act.put, List.setIfInBounds_toArray, List.set_cons_zero, List.set_cons_succ]
                  refine wpAnyL_one (i := 9) (by kernel_rfl) rfl (fun K hK => ?_)
                  go_simp
                  refine hK.out _ _ (fun _ => g7b) ?_
                  clear hK K
                  try simp only [Act.put, List.setIfInBounds_toArray, List.set_cons_zero, List.set_cons_succ]
                  refine wpAnyL_one (i := 10) (by kernel_rfl) rfl (fun K hK => ?_)
                  obtain ⟨f6, g0, g1, g2, g3, g4, g5⟩ := g7b
                  go_simp
                  refine hK.out _ _ (fun h => absurd rfl h) ?_
                  clear hK K
                  try simp only [Act.put, List.setIfInBounds_toArray, List.set_cons_zero, List.set_cons_succ]
                  refine wpAnyL_done (by kernel_rfl) ?_ _
                  obtain ⟨hra, hoa⟩ := grown_ends (i := 6) (u := .slice A7 (acc.length + 1) c7) (unhide VRa) (unhide VOa) (fun k hk => (unhide VLa k hk).1) (unhide VG7) hBm hne hRw
                  have hma := (unhide VM7).set_ 6 (.slice A7 (acc.length + 1) c7)
                  have hwa := own_only (unhide VW7) (Only.setCell (S := fun k => k = mm) (p := ⟨mm, 6, none⟩) (Only.refl _ x7) rfl (.slice A7 (acc.length + 1) c7)) (fun k hk e => by have := ((unhide VW7).lt k hk).1; omega)
                  have haa8 := (unhide VA7).far (p := ⟨mm, 6, none⟩) (by show aa ≠ mm; omega) (.slice A7 (acc.length + 1) c7)
                  obtain ⟨x8, hx8⟩ : ∃ u, x7.setCell ⟨mm, 6, none⟩ (.slice A7 (acc.length + 1) c7) = u := ⟨_, rfl⟩
                  rw [hx8] at hra hoa hma hwa haa8 ⊢
                  have fa3 : x8.cell? ⟨aa, 3, none⟩ = some (.int .u64 ts) := haa8.cell 3
                  have hra := hide hra
                  have hoa := hide hoa
                  have hma := hide hma
                  have hwa := hide hwa
                  clear hx8 g7 g7a f6 g0 g1 g2 g3 g4 g5 haa8
                  go_wp2_with fail
                  have hma := unhide hma
                  have hwa := unhide hwa
                  have hl8 : (acc ++ [(⟨v1, v2, v3, ts, v5, v6⟩ : Vr)]).length = acc.length + 1 := by simp
                  have hv8 : vrow (acc ++ [(⟨v1, v2, v3, ts, v5, v6⟩ : Vr)]) = vrow acc ++ vcs (⟨v1, v2, v3, ts, v5, v6⟩ : Vr) := by simp [vrow]
                  have hk8 := unhide HACC
                  refine ⟨⟨k + 1, acc ++ [(⟨v1, v2, v3, ts, v5, v6⟩ : Vr)], q6, A7, c7, by omega, by simp, by simp [lastOr], by omega, unhide hra, ?_, ?_, unhide hoa, ?_⟩, by simp only [intOf]; omega⟩
                  · rw [← hl8] at hma; exact hma
                  · rw [← hl8, ← hv8] at hwa; exact hwa
                  · rw [show N - (k + 1) = N1 by omega]; exact vers_more (unhide HROW) (unhide HVV)
                  -- v]
                ·
                  have hkN : k = N := by omega
                  subst hkN
                  have hrow1 := unhide HROW
                  rw [Nat.sub_self] at hrow1
                  have hrow0 := row_end hrow1
                  clear hrow1
                  go_wp2_with fail
                  go_meet
                  case rel => exact ⟨acc, A, c, b7, unhide HR8, unhide HM8, unhide HW8, unhide HO8, (unhide HE5).trans (seq_ok (opt_go (unhide HB) hrow0 (by have := unhide HACC; cases acc with | nil => simp at this; omega | cons x l => rfl)))⟩
            -- q5]
          case rest =>
            clear HR HM HO HE5
            obtain ⟨acc, A, c, b6, hr, hm, hown, ho, he⟩ := hcut
            obtain ⟨w6, rfl⟩ : ∃ u, u = wc := ⟨_, rfl⟩
            have HR8 := hide hr; have HM8 := hide hm; have HW8 := hide hown; have HO8 := hide ho; have HE6 := hide he
            have hmw6 := hm.lt
            have hw6 := ho.size
            clear hr hm hown ho he
            go_upto_if 125 with fail
            go_cut [] (fun u => ∃ (a2 : List Int) (vA : Option Addr) (vc : Nat) (b7 : List UInt8), RAt u R B b7 ∧ Blk u mm 28 (mcells (mkMs kd (n1, n2, n3, s1, s2, acc, a2, Wire.cmd0)) A c vA vc) ∧ MOwn u w.heap.size (mkMs kd (n1, n2, n3, s1, s2, acc, a2, Wire.cmd0)) A c vA vc ∧ Only (fun k => k = R ∨ k = mm) w u ∧ newRd b = mapE (fun p => (n1, n2, n3, s1, s2, acc, a2, p)) ((newC7 M).rd b7))
            case first =>
              -- [q6
              rcases Bool.eq_false_or_eq_true (bit M 6) with hb | hb
              rotate_left
              · have HB := hide hb
                have hbt : (bits BinOp.and IntKind.u64 (M / 64) 1 == 1) = false := by have h := bit_form hM0 hM1 6 (by omega); simp only [Int.reducePow, Int.pow_zero, Int.ediv_one] at h; exact h.trans hb
                clear hb
                go_wp2_with fail
                go_meet
                case rel => exact ⟨[], none, 0, b6, unhide HR8, unhide HM8, ⟨unhide HW8, own_nil _ _ _ _⟩, unhide HO8, (unhide HE6).trans (seq_ok (opt_no (unhide HB)))⟩
              · have HB := hide hb
                have hbt : (bits BinOp.and IntKind.u64 (M / 64) 1 == 1) = true := by have h := bit_form hM0 hM1 6 (by omega); simp only [Int.reducePow, Int.pow_zero, Int.ediv_one] at h; exact h.trans hb
                clear hb
                go_wp2_with (first
                  | (go_at_call 61; (with_reducible refine Calls.mono (unhide HUV _ _ (unhide HR8)) ?_); go_must ((
                     rintro _ u9 hout
                     rcases hout with ⟨er, h, rfl, ho⟩ | ⟨n9, r9, h, rfl, hr, ho⟩
                     · unfold gaveUp
                       go_wp2_with fail
                       exact ⟨rfl, .inl ⟨er, (unhide HE6).trans (seq_err (opt_err (unhide HB) (row_err (most_err h)))), rfl, ⟨_, (unhide HM8).only ho (fun e => hne e), by rfl⟩, (unhide HO8).trans (only_R ho)⟩⟩
                     have h90 := (uv_law.bwd _ _ _ h).1.1
                     have H9 := hide h
                     have HR9 := hide hr
                     have HM9 := hide ((unhide HM8).only ho (fun e => hne e))
                     have HW9 := hide (own_only (unhide HW8) ho (fun k hk e => by have := ((unhide HW8).lt k hk).1; omega))
                     have HO9 := hide ((unhide HO8).trans (only_R ho))
                     clear h hr ho)))
                  | (go_at_call 59; (with_reducible refine Calls.mono (least_or _ n9 32 6 _ h90 (by omega) (by omega) (by omega)) ?_); go_must ((
                     rintro _ ux (⟨hn, rfl, rfl⟩ | ⟨hn, rfl, rfl⟩)
                     · unfold gaveUp
                       go_wp2_with fail
                       exact ⟨rfl, .inl ⟨6, (unhide HE6).trans (seq_err (opt_err (unhide HB) (row_err (most_long (unhide H9) hn)))), rfl, ⟨_, unhide HM9, by rfl⟩, unhide HO9⟩⟩
                     have HVEC : Hid ((vecRow fun _ => uvC).rd b6 = rdL (fun _ : Unit => uvC) (fun _ => ()) n9.toNat () r9) := hide (row_rd (c := fun _ : Unit => uvC) (next := fun _ => ()) (s := ()) (most_go (unhide H9) h90 (by omega)))
                     obtain ⟨N, rfl⟩ := Int.eq_ofNat_of_zero_le h90
                     have hN : N ≤ 32 := by omega
                     clear hn)))
                  | (go_at_call 41; go_must ((
                     by_cases hz : N = 0
                     · rw [show decide (0 < N) = false from decide_eq_false (by omega)]
                       refine Calls.mono (some_bad _ _) ?_
                       rintro _ ux ⟨rfl, rfl⟩
                       unfold gaveUp
                       go_wp2_with fail
                       have hr0 := unhide HVEC
                       rw [hz] at hr0
                       exact ⟨rfl, .inl ⟨3, (unhide HE6).trans (seq_err (opt_zero (unhide HB) hr0 rfl)), rfl, ⟨_, unhide HM9, by rfl⟩, unhide HO9⟩⟩
                     rw [show decide (0 < N) = true from decide_eq_true (by omega)]
                     refine Calls.mono (some_ok _ _) ?_
                     rintro _ ux ⟨rfl, rfl⟩
                     have hNp : 0 < N := by omega
                     clear hz))))
                have hw9 := (unhide HO9).size
                have hml9 := (unhide HM9).lt
                go_loopw [135] (fun i wv => ∃ (k : Nat) (a2 : List Int) (b2 : List UInt8) (vA : Option Addr) (vc : Nat), k ≤ N ∧ i = .int .i64 k ∧ a2.length = k ∧ RAt wv R B b2 ∧ Blk wv mm 28 (mcells (mkMs kd (n1, n2, n3, s1, s2, acc, a2, Wire.cmd0)) A c vA vc) ∧ wv.ownsRow u9.heap.size 22 1 (.slice vA a2.length vc) a2.length (a2.map (Value.int .u64)) ∧ Only (fun k => k = R ∨ k = mm) u9 wv ∧ (vecRow fun _ => uvC).rd b6 = mapE (fun l => a2 ++ l) (rdL (fun _ : Unit => uvC) (fun _ => ()) (N - k) () b2)) (fun i _ => N - (intOf i).toNat)
                case atStart => exact ⟨0, [], r9, none, 0, by omega, rfl, rfl, unhide HR9, unhide HM9, own_nil _ _ _ _, Only.refl _ _, (unhide HVEC).trans (mapE_id _).symm⟩
                case round =>
                  obtain ⟨k, a2, b2, vA, vc, hk, rfl, hacc2, hr, hm, hown, ho, hrow⟩ := hrel
                  clear HR9 HM9 HVEC H9
                  have HR10 := hide hr; have HM10 := hide hm; have HX10 := hide hown; have HO10 := hide ho; have HVEC := hide hrow
                  have HACC2 := hide hacc2
                  clear hr hm hown ho hrow hacc2
                  by_cases hlt : k < N
                  ·
                    -- [c
                    obtain ⟨N1, hN1⟩ : ∃ x, N - k = x + 1 := ⟨N - k - 1, by omega⟩
                    rw [hN1] at HVEC
                    have hal : a2.length ≤ 32 := by rw [unhide HACC2]; omega
                    have VR0 : Hid (RAt wr.drew R B b2) := HR10
                    have VM0 : Hid (Blk wr.drew mm 28 (mcells (mkMs kd (n1, n2, n3, s1, s2, acc, a2, Wire.cmd0)) A c vA vc)) := HM10
                    have VO0 : Hid (Only (fun k => k = R ∨ k = mm) u9 wr.drew) := hide (unhide HO10).drew
                    have VW0 : Hid (wr.drew.ownsRow u9.heap.size 22 1 (.slice vA a2.length vc) a2.length (a2.map (Value.int .u64))) := HX10
                    have hRw : R < u9.heap.size := by omega
                    go_upto_region 30 with fail
                    have f7d : wr.drew.cell? ⟨mm, 7, none⟩ = some (.slice vA a2.length vc) := (unhide VM0).cell 7
                    refine wp_region_L 11 (fun u => u.cell? ⟨mm, 7, none⟩ = some (.slice vA a2.length vc)) (by kernel_rfl) ?_
                    refine wpAnyL_take (i := 0) (v := ?_) [11] rfl (by kernel_rfl) (by kernel_rfl) (by kernel_rfl) (by kernel_rfl) (fun _ _ _ h => h) (Or.inl ⟨by kernel_rfl, ?_⟩) (by exact f7d) ?_
                    rotate_left
                    · intro u hSu
                      go_simp
                      try with_reducible rfl
                    try simp only [Act.put, List.setIfInBounds_toArray, List.set_cons_zero, List.set_cons_succ]
                    refine wpAnyL_take (i := 1) (v := ?_) [11] rfl (by kernel_rfl) (by kernel_rfl) (by kernel_rfl) (by kernel_rfl) (fun _ _ _ h => h) (Or.inl ⟨by kernel_rfl, ?_⟩) (by exact f7d) ?_
                    rotate_left
                    · intro u hSu
                      go_simp
                      try with_reducible rfl
                    try simp only [Act.put, List.setIfInBounds_toArray, List.set_cons_zero, List.set_cons_succ]
                    refine wpAnyL_take (i := 2) (v := ?_) [11] rfl (by kernel_rfl) (by kernel_rfl) (by kernel_rfl) (by kernel_rfl) (fun _ _ _ h => h) (Or.inl ⟨by kernel_rfl, ?_⟩) (by exact f7d) ?_
                    rotate_left
                    · intro u hSu
                      go_simp
                      try with_reducible rfl
                    try simp only [Act.put, List.setIfInBounds_toArray, List.set_cons_zero, List.set_cons_succ]
                    refine wpAnyL_take (i := 3) (v := ?_) [11] rfl (by kernel_rfl) (by kernel_rfl) (by kernel_rfl) (by kernel_rfl) (fun _ _ _ h => h) (Or.inl ⟨by kernel_rfl, ?_⟩) (by exact f7d) ?_
                    rotate_left
                    · intro u hSu
                      go_simp
                      try with_reducible rfl
                    try simp only [Act.put, List.setIfInBounds_toArray, List.set_cons_zero, List.set_cons_succ]
                    refine wpAnyL_take (i := 4) (v := ?_) [11] rfl (by kernel_rfl) (by kernel_rfl) (by kernel_rfl) (by kernel_rfl) (fun _ _ _ h => h) (Or.inl ⟨by kernel_rfl, ?_⟩) (by exact f7d) ?_
                    rotate_left
                    · intro u hSu
                      go_simp
                      try with_reducible rfl
                    try simp only [Act.put, List.setIfInBounds_toArray, List.set_cons_zero, List.set_cons_succ]
                    refine wpAnyL_take (i := 5) (v := ?_) [11] rfl (by kernel_rfl) (by kernel_rfl) (by kernel_rfl) (by kernel_rfl) (fun _ _ _ h => h) (Or.inl ⟨by kernel_rfl, ?_⟩) (by exact f7d) ?_
                    rotate_left
                    · intro u hSu
                      go_simp
                      try with_reducible rfl
                    try simp only [Act.put, List.setIfInBounds_toArray, List.set_cons_zero, List.set_cons_succ]
                    refine wpAnyL_one (i := 6) (by kernel_rfl) rfl (fun K hK => ?_)
                    go_simp
                    go_at_call 61
                    (with_reducible refine Calls.mono (unhide HUV _ _ (unhide VR0)) ?_)
                    rintro _ x1 hout
                    rcases hout with ⟨er, h, rfl, ho⟩ | ⟨v1, q1, h, rfl, hr, ho⟩
                    · unfold gaveUp
                      go_wp2_with fail
                      exact ⟨rfl, .inl ⟨er, (unhide HE6).trans (seq_err (opt_err (unhide HB) ((unhide HVEC).trans (list_err (c := fun _ : Unit => uvC) (s := ()) h)))), rfl, ⟨_, (unhide VM0).only ho (fun e => hne e), by rfl⟩, (unhide HO9).trans ((unhide VO0).trans (only_R ho))⟩⟩
                    have HV1 := hide h
                    have VR1 := hide hr
                    have hk := (unhide VM0).only ho (fun e => hne e)
                    have VM1 := hide hk
                    have VO1 := hide ((unhide VO0).trans (only_R ho))
                    have VW1 := hide (own_only (unhide VW0) ho (fun k hk e => by have := ((unhide VW0).lt k hk).1; omega))
                    have f7 : x1.cell? ⟨mm, 7, none⟩ = some (.slice vA a2.length vc) := hk.cell 7
                    have z7 := hk.frozen 7
                    clear h hr ho hk
                    refine hK.out _ _ (fun _ => f7) ?_
                    clear hK K
                    try simp only [Act.put, List.setIfInBounds_toArray, List.set_cons_zero, List.set_cons_succ]
                    refine wpAnyL_one (i := 7) (by kernel_rfl) rfl (fun K hK => ?_)
                    go_simp
                    have f7a := ((unhide VM1).alloc (.cells #[.int .u64 v1] 22)).cell 7
                    refine hK.out _ _ (fun _ => f7a) ?_
                    clear hK K
                    try simp only [Act.put, List.setIfInBounds_toArray, List.set_cons_zero, List.set_cons_succ]
                    refine wpAnyL_one (i := 8) (by kernel_rfl) rfl (fun K hK => ?_)
                    refine step_append_any _ rfl (.tmp 141) (.tmp 144) _ rfl u9.heap.size 22 j0 _ 1 8 Try.underlying24 hj hj0 hj1 hj2 (by rfl) (by omega) (.slice vA a2.length vc) a2.length _ (by rfl) ((unhide VW1).alloc _) _ (some ⟨x1.heap.size, 0, none⟩) 1 1 [.int .u64 v1] (by rfl) (rdV_new x1 #[.int .u64 v1] _ _) (by rfl) (by intro u hu; simp only [List.mem_singleton] at hu; subst hu; rfl) (by simp only [maxLen]; omega) (by omega) (by have := (unhide VO1).size; simp; omega) ?_
                    intro A7 c7 x7 hown7 hg7 hat7 hbel7 hcc7
                    have hb7 := ((unhide VM1).alloc (.cells #[.int .u64 v1] 22)).grown hg7 (fun e => by have := ((unhide VW1).lt mm e.symm).1; omega)
                    have f7 : x7.cell? ⟨mm, 7, none⟩ = some (.slice vA a2.length vc) := hb7.cell 7
                    have z7 := hb7.frozen 7
                    have VM7 := hide hb7
                    have VW7 := hide hown7
                    have VG7 := hide hg7
                    clear hown7 hg7 hat7 hbel7 hb7
                    refine hK.out _ _ (fun _ => f7) ?_
                    clear hK K
                    try simp only [Act.put, List.setIfInBounds_toArray, List.set_cons_zero, List.set_cons_succ]
                    refine wpAnyL_one (i := 9) (by kernel_rfl) rfl (fun K hK => ?_)
                    go_simp
                    refine hK.out _ _ (fun _ => f7) ?_
                    clear hK K
                    try simp only [Act.put, List.setIfInBounds_toArray, List.set_cons_zero, List.set_cons_succ]
                    refine wpAnyL_one (i := 10) (by kernel_rfl) rfl (fun K hK => ?_)
                    go_simp
                    refine hK.out _ _ (fun _ => f7) ?_
                    clear hK K
                    try simp only [Act.put, List.setIfInBounds_toArray, List.set_cons_zero, List.set_cons_succ]
                    refine wpAnyL_one (i := 11) (by kernel_rfl) rfl (fun K hK => ?_)
                    go_simp
                    refine hK.out _ _ (fun h => absurd rfl h) ?_
                    clear hK K
                    try simp only [Act.put, List.setIfInBounds_toArray, List.set_cons_zero, List.set_cons_succ]
                    refine wpAnyL_done (by kernel_rfl) ?_ _
                    go_wp2_with fail
                    obtain ⟨hra, hoa⟩ := grown_ends (i := 7) (u := .slice A7 (a2.length + 1) c7) (unhide VR1) (unhide VO1) (fun k hk => ((unhide VW1).lt k hk).1) (unhide VG7) hBm hne hRw
                    have hma := (unhide VM7).set_ 7 (.slice A7 (a2.length + 1) c7)
                    have hwa := own_only (unhide VW7) (Only.setCell (S := fun k => k = mm) (p := ⟨mm, 7, none⟩) (Only.refl _ x7) rfl (.slice A7 (a2.length + 1) c7)) (fun k hk e => by have := ((unhide VW7).lt k hk).1; omega)
                    obtain ⟨x8, hx8⟩ : ∃ u, x7.setCell ⟨mm, 7, none⟩ (.slice A7 (a2.length + 1) c7) = u := ⟨_, rfl⟩
                    rw [hx8] at hra hoa hma hwa ⊢
                    have hl8 : (a2 ++ [v1]).length = a2.length + 1 := by simp
                    have hv8 : (a2 ++ [v1]).map (Value.int .u64) = a2.map (Value.int .u64) ++ [.int .u64 v1] := by simp
                    have hk8 := unhide HACC2
                    refine ⟨⟨k + 1, a2 ++ [v1], q1, A7, c7, by omega, by simp, by omega, hra, ?_, ?_, hoa, ?_⟩, by simp only [intOf]; omega⟩
                    · rw [← hl8] at hma; exact hma
                    · rw [← hl8, ← hv8] at hwa; exact hwa
                    · rw [show N - (k + 1) = N1 by omega]; exact ints_more (unhide HVEC) (unhide HV1)
                    -- c]
                  ·
                    have hkN : k = N := by omega
                    subst hkN
                    have hrow1 := unhide HVEC
                    rw [Nat.sub_self] at hrow1
                    have hrow0 := row_end hrow1
                    clear hrow1
                    go_wp2_with fail
                    go_meet
                    case rel => exact ⟨a2, vA, vc, b2, unhide HR10, unhide HM10, ⟨own_only (unhide HW9) (unhide HO10) (fun k hk e => by have := ((unhide HW9).lt k hk).1; omega), own_more (unhide HX10) (fun g hg => Nat.le_trans hw9 ((unhide HX10).lt g hg).1)⟩, (unhide HO9).trans (unhide HO10), (unhide HE6).trans (seq_ok (opt_go (unhide HB) hrow0 (by have := unhide HACC2; cases a2 with | nil => simp at this; omega | cons x l => rfl)))⟩
              -- q6]
            case rest =>
              clear HR8 HM8 HW8 HO8 HE6 hmw6 hw6
              obtain ⟨a2, vA, vc, b7, hr, hm, hown, ho, he⟩ := hcut
              obtain ⟨w10, rfl⟩ : ∃ u, u = wc := ⟨_, rfl⟩
              have HR10 := hide hr; have HM10 := hide hm; have HMO := hide hown; have HO11 := hide ho; have HE7 := hide he
              have hmw := hm.lt
              clear hr hm hown ho he
              rcases Bool.eq_false_or_eq_true (bit M 7) with hb | hb
              rotate_left
              · have HB := hide hb
                have hbt : (bits BinOp.and IntKind.u64 (M / 128) 1 == 1) = false := by have h := bit_form hM0 hM1 7 (by omega); simp only [Int.reducePow, Int.pow_zero, Int.ediv_one] at h; exact h.trans hb
                clear hb
                go_wp2_with fail
                exact bodyPost_end (results_none rfl _ _ _) rfl (.inr ⟨_, b7, A, c, vA, vc, (unhide HE7).trans (end_ok (opt_no (unhide HB))), rfl, unhide HR10, unhide HM10, unhide HMO, unhide HO11⟩)
              · have HB := hide hb
                have hbt : (bits BinOp.and IntKind.u64 (M / 128) 1 == 1) = true := by have h := bit_form hM0 hM1 7 (by omega); simp only [Int.reducePow, Int.pow_zero, Int.ediv_one] at h; exact h.trans hb
                clear hb
                go_upto_region 34 with fail
                obtain ⟨aa, haa⟩ : ∃ x, w10.heap.size = x := ⟨_, rfl⟩
                obtain ⟨u11, hu11⟩ : ∃ u, w10.alloc (Obj.cells #[.int .i64 0, .int .i64 0, .int .i64 0, .int .i64 0, .int .i64 0] 54) = u := ⟨_, rfl⟩
                have hra : R < aa := by rw [← haa]; exact (unhide HR10).lt
                have hma : mm < aa := by rw [← haa]; exact (unhide HM10).lt
                have hBaa : B ≤ aa := by omega
                have HA11 : Hid (Blk u11 aa 54 (cells5 [])) := hide (by rw [← haa, ← hu11]; exact Blk.new _ _ _)
                have HO12 : Hid (Only (fun k => k = R ∨ k = aa) w10 u11) := hide (by rw [← hu11]; exact (Only.refl _ _).alloc _)
                have HR11 : Hid (RAt u11 R B b7) := hide ((unhide HR10).only (S := fun _ => False) (by rw [← hu11]; exact (Only.refl _ _).alloc _) (fun _ h => h.elim))
                have HCMB : Hid (∀ er, (cmdC fun _ => uvC).rd b7 = .error er → newRd b = .error er) := hide (fun er h => (unhide HE7).trans (end_err (opt_err (unhide HB) h)))
                have HCM : Hid ((cmdC fun _ => uvC).rd b7 = mapE (fun p => cmOf p.1 p.2) ((seqC (fiveC (most uvC 255 1)) fun _ => textC uvC 16).rd b7)) := hide (cmd_five _ _)
                rw [haa, hu11]
                clear hu11
                go_wp2_with fail
                go_loopw [153] (fun i wr => ∃ (k : Nat) (a3 : List Int) (b3 : List UInt8), k ≤ 5 ∧ i = .int .i64 k ∧ a3.length = k ∧ RAt wr R B b3 ∧ Blk wr aa 54 (cells5 a3) ∧ Only (fun k => k = R ∨ k = aa) w10 wr ∧ (fiveC (most uvC 255 1)).rd b7 = mapE (fun l => a3 ++ l) (rdL (fun _ : Unit => most uvC 255 1) (fun _ => ()) (5 - k) () b3)) (fun i _ => 5 - (intOf i).toNat)
                case atStart => exact ⟨0, [], b7, by omega, rfl, rfl, unhide HR11, unhide HA11, unhide HO12, five_rd _ _⟩
                case round =>
                  obtain ⟨k, a3, b3, hk, rfl, hacc3, hr, ha, ho, hrow⟩ := hrel
                  clear HR11 HA11 HO12
                  have HR12 := hide hr; have HA12 := hide ha; have HO13 := hide ho; have HFIVE := hide hrow
                  have HACC3 := hide hacc3
                  clear hr ha ho hrow hacc3
                  by_cases hlt : k < 5
                  ·
                    -- [d
                    obtain ⟨N1, hN1⟩ : ∃ x, 5 - k = x + 1 := ⟨5 - k - 1, by omega⟩
                    rw [hN1] at HFIVE
                    go_wp2_with (first
                      | (go_at_call 61; (with_reducible refine Calls.mono (unhide HUV _ _ (unhide HR12)) ?_); go_must ((
                         rintro _ x1 hout
                         rcases hout with ⟨er, h, rfl, ho⟩ | ⟨v1, q1, h, rfl, hr, ho⟩
                         · unfold gaveUp
                           go_wp2_with fail
                           have hO := (unhide HO13).trans (ho.mono fun k _ hk => .inl hk)
                           exact ⟨rfl, .inl ⟨er, unhide HCMB er ((unhide HCM).trans (seq_err ((unhide HFIVE).trans (list_err (c := fun _ : Unit => most uvC 255 1) (s := ()) (most_err h))))), rfl, ⟨_, (unhide HM10).only hO (fun e => by omega), by rfl⟩, (unhide HO11).trans (arr_only haa hO)⟩⟩
                         have hv10 := (uv_law.bwd _ _ _ h).1.1
                         have H1 := hide h
                         have VR1 := hide hr
                         have ha := (unhide HA12).only ho (fun e => by omega)
                         have VA1 := hide ha
                         have VO1 := hide ((unhide HO13).trans (ho.mono fun k _ hk => .inl hk))
                         have fa : x1.cell? ⟨aa, k, none⟩ = some (.int .i64 (a3.getD k 0)) := cells5_at ha hlt
                         have za := ha.frozen k
                         clear h hr ho ha)))
                      | (go_at_call 59; (with_reducible refine Calls.mono (least_or _ v1 255 1 _ hv10 (by omega) (by omega) (by omega)) ?_); go_must ((
                         rintro _ ux (⟨hn, rfl, rfl⟩ | ⟨hn, rfl, rfl⟩)
                         · unfold gaveUp
                           go_wp2_with fail
                           have hO := unhide VO1
                           exact ⟨rfl, .inl ⟨1, unhide HCMB 1 ((unhide HCM).trans (seq_err ((unhide HFIVE).trans (list_err (c := fun _ : Unit => most uvC 255 1) (s := ()) (most_long (unhide H1) hn))))), rfl, ⟨_, (unhide HM10).only hO (fun e => by omega), by rfl⟩, (unhide HO11).trans (arr_only haa hO)⟩⟩
                         have HV1 := hide (most_go (l := 255) (e := 1) (unhide H1) hv10 (by omega))
                         clear hn))))
                    obtain ⟨x2, hx2⟩ : ∃ u, x1.setCell ⟨aa, k, none⟩ (.int .i64 v1) = u := ⟨_, rfl⟩
                    have hr2 := (unhide VR1).only ((Only.refl (fun k => k = aa) x1).setCell (p := ⟨aa, k, none⟩) rfl (.int .i64 v1)) (fun j hj => by subst hj; exact ⟨hBaa, by omega⟩)
                    have ho2 := (unhide VO1).setCell (p := ⟨aa, k, none⟩) (.inr rfl) (.int .i64 v1)
                    have ha2 := (unhide VA1).set_ k (.int .i64 v1)
                    rw [cells5_set (unhide HACC3) hlt] at ha2
                    rw [hx2] at hr2 ho2 ha2 ⊢
                    refine ⟨⟨k + 1, a3 ++ [v1], q1, by omega, by simp, by rw [List.length_append, unhide HACC3]; rfl, hr2, ha2, ho2, ?_⟩, by simp only [intOf]; omega⟩
                    rw [show 5 - (k + 1) = N1 by omega]
                    exact ints_more (unhide HFIVE) (unhide HV1)
                    -- d]
                  ·
                    -- [e
                    obtain ⟨w12, rfl⟩ : ∃ u, u = wr := ⟨_, rfl⟩
                    have hk5 : k = 5 := by omega
                    subst hk5
                    have hrow1 := unhide HFIVE
                    rw [Nat.sub_self] at hrow1
                    have hrow0 := row_end hrow1
                    obtain ⟨c0, c1, c2, c3, c4, rfl⟩ := five_of (unhide HACC3)
                    have HCN := hide ((unhide HCM).trans (seq_ok hrow0))
                    clear hrow0 hrow1 hlt hk HFIVE HCM HACC3
                    have hO := unhide HO13
                    have HM13 := hide ((unhide HM10).only hO (fun e => by omega))
                    have HMO13 := hide (show MOwn w12 w.heap.size (mkMs kd (n1, n2, n3, s1, s2, acc, a2, Wire.cmd0)) A c vA vc from ⟨own_only (unhide HMO).vers hO (fun k hk e => by have := (unhide HMO).vers.lt k hk; omega), own_only (unhide HMO).vec hO (fun k hk e => by have := (unhide HMO).vec.lt k hk; omega)⟩)
                    have HO14 := hide ((unhide HO11).trans (arr_only (mm := mm) haa hO))
                    have HMO13b : Hid (MOwn w12.drew w.heap.size (mkMs kd (n1, n2, n3, s1, s2, acc, a2, Wire.cmd0)) A c vA vc) := hide ⟨(unhide HMO13).vers, (unhide HMO13).vec⟩
                    have HR12 : Hid (RAt w12.drew R B b3) := HR12
                    have HA12 : Hid (Blk w12.drew aa 54 (cells5 [c0, c1, c2, c3, c4])) := HA12
                    have HM13 : Hid (Blk w12.drew mm 28 (mcells (mkMs kd (n1, n2, n3, s1, s2, acc, a2, Wire.cmd0)) A c vA vc)) := HM13
                    have HMO13 : Hid (MOwn w12.drew w.heap.size (mkMs kd (n1, n2, n3, s1, s2, acc, a2, Wire.cmd0)) A c vA vc) := HMO13b
                    have HO14 := hide (unhide HO14).drew
                    have g5 : At5 w12.drew aa c0 c1 c2 c3 c4 := ⟨cells5_at (unhide HA12) (k := 0) (by omega), cells5_at (unhide HA12) (k := 1) (by omega), cells5_at (unhide HA12) (k := 2) (by omega), cells5_at (unhide HA12) (k := 3) (by omega), cells5_at (unhide HA12) (k := 4) (by omega)⟩
                    go_upto_region 39 with fail
                    -- [g
                    refine wp_region_L 16 (fun u => At5 u aa c0 c1 c2 c3 c4) (by kernel_rfl) ?_
                    refine wpAnyL_take (i := 0) (v := ?_) [16] rfl (by kernel_rfl) (by kernel_rfl) (by kernel_rfl) (by kernel_rfl) (fun _ _ _ h => h) (Or.inl ⟨by kernel_rfl, ?_⟩) (by exact g5) ?_
                    rotate_left
                    · intro u hSu
                      obtain ⟨s0, s1, s2, s3, s4⟩ := hSu
                      go_simp
                      try with_reducible rfl
                    try simp only [Act.put, List.setIfInBounds_toArray, List.set_cons_zero, List.set_cons_succ]
                    refine wpAnyL_take (i := 1) (v := ?_) [16] rfl (by kernel_rfl) (by kernel_rfl) (by kernel_rfl) (by kernel_rfl) (fun _ _ _ h => h) (Or.inl ⟨by kernel_rfl, ?_⟩) (by exact g5) ?_
                    rotate_left
                    · intro u hSu
                      obtain ⟨s0, s1, s2, s3, s4⟩ := hSu
                      go_simp
                      try with_reducible rfl
                    try simp only [Act.put, List.setIfInBounds_toArray, List.set_cons_zero, List.set_cons_succ]
                    refine wpAnyL_take (i := 2) (v := ?_) [16] rfl (by kernel_rfl) (by kernel_rfl) (by kernel_rfl) (by kernel_rfl) (fun _ _ _ h => h) (Or.inl ⟨by kernel_rfl, ?_⟩) (by exact g5) ?_
                    rotate_left
                    · intro u hSu
                      obtain ⟨s0, s1, s2, s3, s4⟩ := hSu
                      go_simp
                      try with_reducible rfl
                    try simp only [Act.put, List.setIfInBounds_toArray, List.set_cons_zero, List.set_cons_succ]
                    refine wpAnyL_take (i := 3) (v := ?_) [16] rfl (by kernel_rfl) (by kernel_rfl) (by kernel_rfl) (by kernel_rfl) (fun _ _ _ h => h) (Or.inl ⟨by kernel_rfl, ?_⟩) (by exact g5) ?_
                    rotate_left
                    · intro u hSu
                      obtain ⟨s0, s1, s2, s3, s4⟩ := hSu
                      go_simp
                      try with_reducible rfl
                    try simp only [Act.put, List.setIfInBounds_toArray, List.set_cons_zero, List.set_cons_succ]
                    refine wpAnyL_take (i := 4) (v := ?_) [16] rfl (by kernel_rfl) (by kernel_rfl) (by kernel_rfl) (by kernel_rfl) (fun _ _ _ h => h) (Or.inl ⟨by kernel_rfl, ?_⟩) (by exact g5) ?_
                    rotate_left
                    · intro u hSu
                      obtain ⟨s0, s1, s2, s3, s4⟩ := hSu
                      go_simp
                      try with_reducible rfl
                    try simp only [Act.put, List.setIfInBounds_toArray, List.set_cons_zero, List.set_cons_succ]
                    refine wpAnyL_take (i := 5) (v := ?_) [16] rfl (by kernel_rfl) (by kernel_rfl) (by kernel_rfl) (by kernel_rfl) (fun _ _ _ h => h) (Or.inl ⟨by kernel_rfl, ?_⟩) (by exact g5) ?_
                    rotate_left
                    · intro u hSu
                      obtain ⟨s0, s1, s2, s3, s4⟩ := hSu
                      go_simp
                      try with_reducible rfl
                    try simp only [Act.put, List.setIfInBounds_toArray, List.set_cons_zero, List.set_cons_succ]
                    refine wpAnyL_take (i := 6) (v := ?_) [16] rfl (by kernel_rfl) (by kernel_rfl) (by kernel_rfl) (by kernel_rfl) (fun _ _ _ h => h) (Or.inl ⟨by kernel_rfl, ?_⟩) (by exact g5) ?_
                    rotate_left
                    · intro u hSu
                      obtain ⟨s0, s1, s2, s3, s4⟩ := hSu
                      go_simp
                      try with_reducible rfl
                    try simp only [Act.put, List.setIfInBounds_toArray, List.set_cons_zero, List.set_cons_succ]
                    refine wpAnyL_take (i := 7) (v := ?_) [16] rfl (by kernel_rfl) (by kernel_rfl) (by kernel_rfl) (by kernel_rfl) (fun _ _ _ h => h) (Or.inl ⟨by kernel_rfl, ?_⟩) (by exact g5) ?_
                    rotate_left
                    · intro u hSu
                      obtain ⟨s0, s1, s2, s3, s4⟩ := hSu
                      go_simp
                      try with_reducible rfl
                    try simp only [Act.put, List.setIfInBounds_toArray, List.set_cons_zero, List.set_cons_succ]
                    refine wpAnyL_take (i := 8) (v := ?_) [16] rfl (by kernel_rfl) (by kernel_rfl) (by kernel_rfl) (by kernel_rfl) (fun _ _ _ h => h) (Or.inl ⟨by kernel_rfl, ?_⟩) (by exact g5) ?_
                    rotate_left
                    · intro u hSu
                      obtain ⟨s0, s1, s2, s3, s4⟩ := hSu
                      go_simp
                      try with_reducible rfl
                    try simp only [Act.put, List.setIfInBounds_toArray, List.set_cons_zero, List.set_cons_succ]
                    refine wpAnyL_take (i := 9) (v := ?_) [16] rfl (by kernel_rfl) (by kernel_rfl) (by kernel_rfl) (by kernel_rfl) (fun _ _ _ h => h) (Or.inl ⟨by kernel_rfl, ?_⟩) (by exact g5) ?_
                    rotate_left
                    · intro u hSu
                      obtain ⟨s0, s1, s2, s3, s4⟩ := hSu
                      go_simp
                      try with_reducible rfl
                    try simp only [Act.put, List.setIfInBounds_toArray, List.set_cons_zero, List.set_cons_succ]
                    refine wpAnyL_take (i := 10) (v := ?_) [16] rfl (by kernel_rfl) (by kernel_rfl) (by kernel_rfl) (by kernel_rfl) (fun _ _ _ h => h) (Or.inl ⟨by kernel_rfl, ?_⟩) (by exact g5) ?_
                    rotate_left
                    · intro u hSu
                      obtain ⟨s0, s1, s2, s3, s4⟩ := hSu
                      go_simp
                      try with_reducible rfl
                    try simp only [Act.put, List.setIfInBounds_toArray, List.set_cons_zero, List.set_cons_succ]
                    refine wpAnyL_take (i := 11) (v := ?_) [16] rfl (by kernel_rfl) (by kernel_rfl) (by kernel_rfl) (by kernel_rfl) (fun _ _ _ h => h) (Or.inl ⟨by kernel_rfl, ?_⟩) (by exact g5) ?_
                    rotate_left
                    · intro u hSu
                      obtain ⟨s0, s1, s2, s3, s4⟩ := hSu
                      go_simp
                      try with_reducible rfl
                    try simp only [Act.put, List.setIfInBounds_toArray, List.set_cons_zero, List.set_cons_succ]
                    refine wpAnyL_one (i := 12) (by kernel_rfl) rfl (fun K hK => ?_)
                    go_simp
                    go_at_call 62
                    (with_reducible refine Calls.mono (unhide HT16 _ _ (unhide HR12)) ?_)
                    rintro _ x1 hout
                    rcases hout with ⟨er, h, rfl, ho⟩ | ⟨v1, q1, h, rfl, hr, ho⟩
                    · unfold gaveUp
                      go_wp2_with fail
                      exact ⟨rfl, .inl ⟨er, unhide HCMB er ((unhide HCN).trans (end_err h)), rfl, ⟨_, (unhide HM13).only ho (fun e => hne e), by rfl⟩, (unhide HO14).trans (only_R ho)⟩⟩
                    have hE := (unhide HCN).trans (end_ok h)
                    have hm15 := (unhide HM13).only ho (fun e => hne e)
                    have HE15 := hide hE
                    have HR15 := hide hr
                    have HM15 := hide hm15
                    have HO15 := hide ((unhide HO14).trans (only_R (mm := mm) ho))
                    have HMO15 := hide (show MOwn x1 w.heap.size (mkMs kd (n1, n2, n3, s1, s2, acc, a2, Wire.cmd0)) A c vA vc from ⟨own_only (unhide HMO13).vers ho (fun k hk e => by have := (unhide HMO13).vers.lt k hk; omega), own_only (unhide HMO13).vec ho (fun k hk e => by have := (unhide HMO13).vec.lt k hk; omega)⟩)
                    have g5 : At5 x1 aa c0 c1 c2 c3 c4 := by
                      have ha := (unhide HA12).only ho (fun e => by omega)
                      exact ⟨cells5_at ha (k := 0) (by omega), cells5_at ha (k := 1) (by omega), cells5_at ha (k := 2) (by omega), cells5_at ha (k := 3) (by omega), cells5_at ha (k := 4) (by omega)⟩
                    clear h hr ho hE hm15
                    refine hK.out _ _ (fun _ => g5) ?_
                    clear hK K
                    try simp only [Act.put, List.setIfInBounds_toArray, List.set_cons_zero, List.set_cons_succ]
                    refine wpAnyL_one (i := 13) (by kernel_rfl) rfl (fun K hK => ?_)
                    go_simp
                    refine hK.out _ _ (fun _ => g5) ?_
                    clear hK K
                    try simp only [Act.put, List.setIfInBounds_toArray, List.set_cons_zero, List.set_cons_succ]
                    refine wpAnyL_one (i := 14) (by kernel_rfl) rfl (fun K hK => ?_)
                    go_simp
                    refine hK.out _ _ (fun _ => g5) ?_
                    clear hK K
                    try simp only [Act.put, List.setIfInBounds_toArray, List.set_cons_zero, List.set_cons_succ]
                    refine wpAnyL_one (i := 15) (by kernel_rfl) rfl (fun K hK => ?_)
                    go_simp
                    refine hK.out _ _ (fun _ => g5) ?_
                    clear hK K
                    try simp only [Act.put, List.setIfInBounds_toArray, List.set_cons_zero, List.set_cons_succ]
                    refine wpAnyL_one (i := 16) (by kernel_rfl) rfl (fun K hK => ?_)
                    refine if_wanted rfl (wp_store_mid 26 (.tmp 178) (.tmp 176) rfl mm 8 #[.int .i64 c0, .int .i64 c1, .int .i64 c2, .int .i64 c3, .int .i64 c4, .string v1] rfl rfl ((unhide HM15).there (by show 8 + 6 ≤ 14; omega)) (by kernel_rfl) (by simp [Value.oneCell']) ?_)
                    refine hK.out _ _ (fun h => absurd rfl h) ?_
                    clear hK K
                    try simp only [Act.put, List.setIfInBounds_toArray, List.set_cons_zero, List.set_cons_succ]
                    refine wpAnyL_done (by kernel_rfl) ?_ _
                    have hoS := Only.setCells (S := fun k => k = mm) (g := mm) rfl [.int .i64 c0, .int .i64 c1, .int .i64 c2, .int .i64 c3, .int .i64 c4, .string v1] 8 x1
                    have hmS : Blk (x1.setCells mm 8 [.int .i64 c0, .int .i64 c1, .int .i64 c2, .int .i64 c3, .int .i64 c4, .string v1]) mm 28 (mcells (mkMs kd (n1, n2, n3, s1, s2, acc, a2, ⟨c0, c1, c2, c3, c4, v1⟩)) A c vA vc) := (unhide HM15).setCells _ 8
                    have hrS := (unhide HR15).only hoS (fun k hk => by subst hk; exact ⟨hBm, hne⟩)
                    have hOS := (unhide HO15).trans (hoS.mono fun k _ hk => .inr hk)
                    have hwS : MOwn (x1.setCells mm 8 [.int .i64 c0, .int .i64 c1, .int .i64 c2, .int .i64 c3, .int .i64 c4, .string v1]) w.heap.size (mkMs kd (n1, n2, n3, s1, s2, acc, a2, ⟨c0, c1, c2, c3, c4, v1⟩)) A c vA vc := ⟨own_only (unhide HMO15).vers hoS (fun k hk e => by have := (unhide HMO15).vers.lt k hk; omega), own_only (unhide HMO15).vec hoS (fun k hk e => by have := (unhide HMO15).vec.lt k hk; omega)⟩
                    -- [f
                    obtain ⟨x2, hx2⟩ : ∃ u, x1.setCells mm 8 [.int .i64 c0, .int .i64 c1, .int .i64 c2, .int .i64 c3, .int .i64 c4, .string v1] = u := ⟨_, rfl⟩
                    rw [hx2] at hmS hrS hOS hwS ⊢
                    simp only [List.getElem_toArray, List.getElem_cons_succ, List.getElem_cons_zero]
                    have f8 : x2.cell? ⟨mm, 8, none⟩ = some (.int .i64 c0) := hmS.cell 8
                    have f9 : x2.cell? ⟨mm, 9, none⟩ = some (.int .i64 c1) := hmS.cell 9
                    have f10 : x2.cell? ⟨mm, 10, none⟩ = some (.int .i64 c2) := hmS.cell 10
                    have f11 : x2.cell? ⟨mm, 11, none⟩ = some (.int .i64 c3) := hmS.cell 11
                    have f12 : x2.cell? ⟨mm, 12, none⟩ = some (.int .i64 c4) := hmS.cell 12
                    have f13 : x2.cell? ⟨mm, 13, none⟩ = some (.string v1) := hmS.cell 13
                    obtain ⟨r, hrq, heq⟩ := eql_cmd ⟨c0, c1, c2, c3, c4, v1⟩ Wire.cmd0
                    have heq2 : ∀ u : World, (Op.equalIn 10000 26 (.agg #[.int .i64 c0, .int .i64 c1, .int .i64 c2, .int .i64 c3, .int .i64 c4, .string v1]) (.agg #[.int .i64 0, .int .i64 0, .int .i64 0, .int .i64 0, .int .i64 0, .string ⟨#[]⟩])).run Try.prog u = .ok r u := heq
                    have hnz : nzC ⟨c0, c1, c2, c3, c4, v1⟩ = !r := by
                      unfold nzC
                      cases r with
                      | true => simp [hrq.1 rfl]
                      | false => simp; intro h; have := hrq.2 h; cases this
                    have HNZ := hide hnz
                    have hmS := hide hmS; have hrS := hide hrS; have hOS := hide hOS; have hwS := hide hwS
                    clear heq hrq hnz hx2 hoS g5
                    -- [h
                    cases r
                    · go_wp2_with (go_at_call 41; refine Calls.mono (some_ok _ _) ?_; rintro _ ux ⟨rfl, rfl⟩)
                      exact bodyPost_end (results_none rfl _ _ _) rfl (.inr ⟨_, q1, A, c, vA, vc, (unhide HE7).trans (end_ok (opt_go (unhide HB) (unhide HE15) (unhide HNZ))), rfl, unhide hrS, unhide hmS, unhide hwS, unhide hOS⟩)
                    · go_wp2_with (go_at_call 41; refine Calls.mono (some_bad _ _) ?_; rintro _ ux ⟨rfl, rfl⟩; unfold gaveUp)
                      exact ⟨rfl, .inl ⟨3, (unhide HE7).trans (end_err (opt_zero (unhide HB) (unhide HE15) (unhide HNZ))), rfl, ⟨_, unhide hmS, by rfl⟩, unhide hOS⟩⟩
                    -- h]
                    -- f]
                    -- g]
                    -- e]
end Go.Proofs.Ytkgacehnpdijaaa
