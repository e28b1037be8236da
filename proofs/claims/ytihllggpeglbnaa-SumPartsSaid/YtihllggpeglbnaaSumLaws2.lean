/- The walks of SumParts. -/
import Derived.Test.YtihllggpeglbnaaSumLaws
import Derived.Test.YtihllggpeglbnaaFrame
namespace Go.Proofs.Ytihllggpeglbnaa
set_option linter.unusedVariables false
open Go.RowKit

set_option maxHeartbeats 400000 in
theorem sumParts_walk (l : List UInt8) (A : Option Addr) (c : Nat) (z : List Int) (Z : Option Addr) (d : Nat) (w : World) (hr : RdB w w.heap.size A l) (hl : l.length ≤ c) (hc : c ≤ 140737488351232)
    (hz : RdI .i64 w w.heap.size Z z) (hzl : z.length ≤ 140737488351232) :
    Calls Try.prog 4 #[.slice A l.length c, .slice Z z.length d] w fun e w' => e = .returned (.bool true) ∧ Below w.heap.size w w' := by
  obtain ⟨hzw, hzr⟩ := hz
  go_enter Try.func4, Try.ntmps4
  go_wp2
  go_loop [5, 6, 11] (fun s a i => ∃ (k t : Nat), k ≤ z.length ∧ t ≤ l.length ∧ i = .int .i64 k ∧ a = .int .i64 t ∧ s = .int .u32 ((Crc.more 0#32 (l.take t)).toNat : Int)) (fun _ _ i => z.length - (intOf i).toNat)
  case atStart => exact ⟨0, 0, Nat.zero_le _, Nat.zero_le _, rfl, rfl, congrArg (Value.int .u32) (by rw [List.take_zero]; decide)⟩
  case round =>
    obtain ⟨k, t, hk, ht, rfl, rfl, rfl⟩ := hrel
    by_cases hlt : k < z.length
    · obtain ⟨ad, rfl, _, hcell⟩ := hzr (by omega)
      have hcc := hcell k _ (List.getElem?_eq_getElem hlt)
      have hw := hzw _ (List.getElem_mem hlt)
      simp [Lit.wf, IntKind.min, IntKind.max, IntKind.signed, IntKind.bits] at hw
      clear hcell
      generalize z[k] = n at hcc hw
      by_cases hn1 : (t : Int) < n
      · by_cases hn2 : n ≤ (l.length : Int)
        · obtain ⟨m, rfl⟩ := Int.eq_ofNat_of_zero_le (show 0 ≤ n by omega)
          have HM := hide (Crc.more_append 0#32 (l.take t) ((l.drop t).take (m - t)))
          go_wp2_with fail
          refine (more_n (Crc.more (0#32) (List.take t l)) ((l.drop t).take (m - t)) _ _ _ _ _ (hr.mid t (m - t)) (by simp; omega) (by omega)).mono ?_
          rintro e w' ⟨rfl, rfl⟩
          go_wp2_with fail
          go_round
          case rel =>
            refine ⟨k + 1, m, by omega, by omega, by go_num, rfl, congrArg (fun x : BitVec 32 => Value.int .u32 (x.toNat : Int)) ?_⟩
            rw [← unhide HM, take_mid l (by omega)]
          case measure => simp [intOf]; omega
        · go_wp2_with fail
          go_round
          case rel => exact ⟨k + 1, t, by omega, by omega, by go_num, rfl, rfl⟩
          case measure => simp [intOf]; omega
      · go_wp2_with fail
        go_round
        case rel => exact ⟨k + 1, t, by omega, by omega, by go_num, rfl, rfl⟩
        case measure => simp [intOf]; omega
    · go_wp2_with fail
      refine (awake_any _).mono ?_
      rintro e w1 ⟨rfl, hb⟩
      have h1 := hide (hr.below hb)
      have h2 := hide ((hr.off t).below hb)
      have h3 := hide ((hr.cut (cap := c) ht hl).below hb)
      have HB := hide hb
      have HM := hide (Crc.more_append 0#32 (l.take t) (l.drop t))
      clear hr hb
      go_wp2_with fail
      · refine (more_n (Crc.more (0#32) (List.take t l)) (l.drop t) _ _ _ _ w1 (by have := unhide h3; rw [if_pos (by assumption)] at this; exact this) (by simp) (by omega)).mono ?_
        rintro e w2 ⟨rfl, rfl⟩
        go_wp2_with fail
        refine (of_n l _ _ _ _ w1 (unhide h1) rfl (by omega)).mono ?_
        rintro e w2 ⟨rfl, rfl⟩
        go_wp2_with fail
        go_ret
        exact ⟨ret_eq (congrArg Value.bool (by rw [← unhide HM, List.take_append_drop]; simp)), unhide HB⟩
      · refine (more_n (Crc.more (0#32) (List.take t l)) (l.drop t) _ _ _ _ w1 (unhide h2) (by simp) (by omega)).mono ?_
        rintro e w2 ⟨rfl, rfl⟩
        go_wp2_with fail
        refine (of_n l _ _ _ _ w1 (unhide h1) rfl (by omega)).mono ?_
        rintro e w2 ⟨rfl, rfl⟩
        go_wp2_with fail
        go_ret
        exact ⟨ret_eq (congrArg Value.bool (by rw [← unhide HM, List.take_append_drop]; simp)), unhide HB⟩
end Go.Proofs.Ytihllggpeglbnaa
