/- The walk of SumApart. -/
import Derived.Test.YtihllggpeglbnaaSumLaws
import Derived.Test.YtihllggpeglbnaaFrame
import Derived.Test.YtihllggpeglbnaaMem
namespace Go.Proofs.Ytihllggpeglbnaa
set_option linter.unusedVariables false
open Go.RowKit

theorem u8info4 : (Try.prog.info? 5).map (fun i => (i.zero, i.size, i.bytes)) = some (some (.int .u8 0), 1, 1) := by kernel_rfl
/-- the byte that is turned k places on -/
def bitsAt (s : BitVec 32) (k : Nat) : UInt8 := UInt8.ofNat (s.toNat / 2 ^ (8 * k))

theorem bitsAt_spell (s : BitVec 32) (k : Nat) : (s.toNat : Int) / 2 ^ (8 * k) % 256 = ((bitsAt s k).toNat : Int) := by
  unfold bitsAt
  rw [UInt8.toNat_ofNat', Int.natCast_emod, Int.natCast_ediv, Int.natCast_pow]
  rfl
theorem bitsAt_ne (s : BitVec 32) (k : Nat) : ((s.toNat : Int) / 2 ^ (8 * k) % 256 != 0) = (bitsAt s k != 0) := by
  rw [bitsAt_spell]
  rw [Bool.eq_iff_iff, bne_iff_ne, bne_iff_ne]
  have h : (bitsAt s k = 0) ↔ (bitsAt s k).toNat = 0 := by rw [← UInt8.toNat_inj]; rfl
  rw [ne_eq, ne_eq, h]
  omega
theorem any_range_succ (k : Nat) (p : Nat → Bool) : (List.range (k + 1)).any p = ((List.range k).any p || p k) := by
  rw [List.range_succ, List.any_append]; simp
theorem xor_byte8 (x : UInt8) (s : BitVec 32) (k : Nat) : bits BinOp.xor IntKind.u8 (x.toNat : Int) ((s.toNat : Int) / 2 ^ (8 * k) % 256) = ((x ^^^ bitsAt s k).toNat : Int) := by
  rw [bitsAt_spell]
  have hx := x.toNat_lt
  have hy := (bitsAt s k).toNat_lt
  rw [u8_xor_nat _ _ (by omega) (by omega), UInt8.toNat_xor]
theorem apart_bool (b : List UInt8) (t k : Nat) (s : BitVec 32) (hk : k ≤ 4) (h : t + k ≤ b.length) :
    ((((Crc.more 0#32 (Crc.turnedBy b t k (bitsAt s))).toNat : Int) != ((Crc.more 0#32 b).toNat : Int)) == ((List.range k).any fun j => bitsAt s j != 0)) = true := by
  have hA := Crc.apart b t k (bitsAt s) hk h
  rw [beq_iff_eq, Bool.eq_iff_iff, bne_iff_ne, List.any_eq_true]
  have e : ((Crc.more 0#32 (Crc.turnedBy b t k (bitsAt s))).toNat : Int) = ((Crc.more 0#32 b).toNat : Int) ↔ Crc.more 0#32 (Crc.turnedBy b t k (bitsAt s)) = Crc.more 0#32 b := by
    rw [← BitVec.toNat_inj]; omega
  rw [ne_eq, e, hA]
  constructor
  · intro hh
    apply Classical.byContradiction
    intro hn
    apply hh
    intro j hj
    apply Classical.byContradiction
    intro hd
    exact hn ⟨j, List.mem_range.2 hj, by rw [bne_iff_ne]; exact hd⟩
  · rintro ⟨j, hj, hd⟩ hh
    rw [bne_iff_ne] at hd
    exact hd (hh j (List.mem_range.1 hj))

set_option maxHeartbeats 400000 in
theorem sumApart_walk (b : List UInt8) (B : Option Addr) (cb : Nat) (n : Int) (s : BitVec 32) (w : World) (hb : RdB w w.heap.size B b) (lb : b.length ≤ cb) (hb' : cb ≤ 140737488351232)
    (h0 : 0 ≤ n) (h1 : n < b.length) (hs : ¬ s.toNat = 0) :
    Calls Try.prog 5 #[.slice B b.length cb, .int .i64 n, .int .u32 (s.toNat : Int)] w fun e w' => e = .returned (.bool true) ∧ Below w.heap.size w w' := by
  obtain ⟨i0, hi, hz0, hz1, hz2⟩ := info_parts u8info4
  obtain ⟨t, rfl⟩ := Int.eq_ofNat_of_zero_le h0
  have hsl := s.isLt
  have t1 : decide ((t : Int) < 0) = false := by simp
  have t2 : decide ((b.length : Int) ≤ (t : Int)) = false := by simp; omega
  have t3 : ((s.toNat : Int) == 0) = false := by simp; omega
  go_enter Try.func5, Try.ntmps5
  go_wp2_with (at_builtin
               refine wpList_append_any _ rfl (.tmp 23) (.tmp 24) _ rfl w.heap.size 5 i0 _ 1 1 Try.underlying23 hi hz0 hz1 hz2 rfl (by omega) _ 0 [] rfl
                 (own_new w w.heap.size #[] 5 0 [] (Nat.le_refl _) (by simp [maxLen]) rfl rfl) w.heap.size B b.length cb (b.map Bv) rfl (hb.alloc (Nat.le_refl _) _).v (by simp) oneCell_Bv (by simp only [maxLen]; omega) (by omega) (by simp) ?_
               intro A1 c1 w1 hown _ _ hbel hcc)
  simp only [Nat.zero_add, List.nil_append] at hown
  have hg : ∃ g, A1 = some ⟨g, 0, none⟩ ∧ w.heap.size ≤ g ∧ g < w1.heap.size := by
    obtain ⟨g, cap, hv, hbg, hlt⟩ := hown.form (by omega)
    exact ⟨g, by injection hv, hbg, hlt⟩
  obtain ⟨g, rfl, hg1, hg2⟩ := hg
  have HB := hide ((Below.refl w.heap.size w).alloc (Nat.le_refl _) (.cells #[] 5) |>.trans hbel)
  have HR := hide hb
  clear hbel hb
  go_loopw [8, 9] (fun u i wr => ∃ k : Nat, k ≤ 4 ∧ t + k ≤ b.length ∧ i = .int .i64 k ∧ u = .bool ((List.range k).any fun j => bitsAt s j != 0) ∧
      wr.ownsRow w.heap.size 5 1 (.slice (some ⟨g, 0, none⟩) b.length c1) b.length ((Crc.turnedBy b t k (bitsAt s)).map Bv) ∧ Below w.heap.size w wr) (fun _ i _ => 4 - (intOf i).toNat)
  case atStart => exact ⟨0, by omega, by omega, rfl, rfl, by rw [Crc.turnedBy_zero]; exact hown, unhide HB⟩
  case round =>
    obtain ⟨k, hk, htk, rfl, rfl, hrow, hbr⟩ := hrel
    by_cases hk4 : k < 4
    · by_cases htl : t + k < b.length
      · have hcell := (hrow.cellAt (t + k) (by omega)).trans (by rw [List.getElem?_map, List.getElem?_eq_getElem (by rw [Crc.turnedBy_length]; exact htl), Crc.turnedBy_here _ _ _ _ htl]; rfl : _ = some (.int .u8 (b[t + k].toNat : Int)))
        have hfz := hrow.frozenAt (t + k)
        have HRow := hide hrow
        have HBr := hide hbr
        clear hrow hbr
        have HU := hide (any_range_succ k fun j => bitsAt s j != 0)
        generalize ((List.range k).any fun j => bitsAt s j != 0) = u at HU ⊢
        go_wp2
        go_region
        go_wp2
        all_goals
          refine ⟨⟨k + 1, by omega, by omega, by go_num, congrArg Value.bool ?_, ?_, ((unhide HBr).setCell hg1 _).drew⟩, by simp [intOf]; omega⟩
          · rw [unhide HU]; simp [*, bitsAt_ne]
          · have := ((unhide HRow).stored (t + k) (Bv (b[t + k] ^^^ bitsAt s k))).1.drew
            rw [← List.map_set, Crc.turnedBy_set _ _ _ _ htl] at this
            rw [xor_byte8]
            exact this
      · have ht : decide ((t : Int) + (k : Int) < (b.length : Int)) = false := by simp; omega
        have HT := hide (apart_bool b t k s hk htk)
        have HN := hide (Crc.turnedBy_length b t k (bitsAt s))
        have HL := hide (RdB.of_own hrow)
        have HBr := hide hbr
        have HS := hide hbr.size
        have HR2 := hide (((unhide HR).below hbr).more hbr.size)
        clear hrow hbr
        generalize ((List.range k).any fun j => bitsAt s j != 0) = u at HT ⊢
        go_wp2_with fail
        refine (awake_any _).mono ?_
        rintro e w2 ⟨rfl, hb2⟩
        have HL2 := hide ((unhide HL).below hb2)
        have HR3 := hide ((unhide HR2).below hb2)
        have HB2 := hide ((unhide HBr).trans (hb2.mono (unhide HS)))
        clear hb2
        go_wp2_with fail
        refine (of_n _ _ _ _ _ w2 (unhide HL2) (unhide HN) (by omega)).mono ?_
        rintro e w3 ⟨rfl, rfl⟩
        go_wp2_with fail
        refine (of_n _ _ _ _ _ w2 (unhide HR3) rfl (by omega)).mono ?_
        rintro e w3 ⟨rfl, rfl⟩
        go_wp2_with fail
        go_ret
        exact ⟨ret_eq (congrArg Value.bool (unhide HT)), unhide HB2⟩
    · obtain rfl : k = 4 := by omega
      have HT := hide (apart_bool b t 4 s hk htk)
      have HN := hide (Crc.turnedBy_length b t 4 (bitsAt s))
      have HL := hide (RdB.of_own hrow)
      have HBr := hide hbr
      have HS := hide hbr.size
      have HR2 := hide (((unhide HR).below hbr).more hbr.size)
      clear hrow hbr
      generalize ((List.range 4).any fun j => bitsAt s j != 0) = u at HT ⊢
      go_wp2_with fail
      refine (awake_any _).mono ?_
      rintro e w2 ⟨rfl, hb2⟩
      have HL2 := hide ((unhide HL).below hb2)
      have HR3 := hide ((unhide HR2).below hb2)
      have HB2 := hide ((unhide HBr).trans (hb2.mono (unhide HS)))
      clear hb2
      go_wp2_with fail
      refine (of_n _ _ _ _ _ w2 (unhide HL2) (unhide HN) (by omega)).mono ?_
      rintro e w3 ⟨rfl, rfl⟩
      go_wp2_with fail
      refine (of_n _ _ _ _ _ w2 (unhide HR3) rfl (by omega)).mono ?_
      rintro e w3 ⟨rfl, rfl⟩
      go_wp2_with fail
      go_ret
      exact ⟨ret_eq (congrArg Value.bool (unhide HT)), unhide HB2⟩

set_option maxHeartbeats 400000 in
theorem sumApart_low (b : List UInt8) (B : Option Addr) (cb : Nat) (n : Int) (s : Int) (w : World) (h0 : n < 0) :
    Calls Try.prog 5 #[.slice B b.length cb, .int .i64 n, .int .u32 s] w fun e w' => e = .returned (.bool true) ∧ Below w.heap.size w w' := by
  have t1 : decide (n < 0) = true := by simp; omega
  go_enter Try.func5, Try.ntmps5
  go_wp2_with fail
  refine (awake_any _).mono ?_
  rintro e w1 ⟨rfl, hb⟩
  go_wp2_with fail
  go_ret
  exact ⟨rfl, hb⟩
set_option maxHeartbeats 400000 in
theorem sumApart_high (b : List UInt8) (B : Option Addr) (cb : Nat) (n : Int) (s : Int) (w : World) (h0 : 0 ≤ n) (h1 : (b.length : Int) ≤ n) :
    Calls Try.prog 5 #[.slice B b.length cb, .int .i64 n, .int .u32 s] w fun e w' => e = .returned (.bool true) ∧ Below w.heap.size w w' := by
  have t1 : decide (n < 0) = false := by simp; omega
  have t2 : decide ((b.length : Int) ≤ n) = true := by simp; omega
  go_enter Try.func5, Try.ntmps5
  go_wp2_with fail
  refine (awake_any _).mono ?_
  rintro e w1 ⟨rfl, hb⟩
  go_wp2_with fail
  go_ret
  exact ⟨rfl, hb⟩
set_option maxHeartbeats 400000 in
theorem sumApart_none (b : List UInt8) (B : Option Addr) (cb : Nat) (n : Int) (w : World) (h0 : 0 ≤ n) (h1 : n < (b.length : Int)) :
    Calls Try.prog 5 #[.slice B b.length cb, .int .i64 n, .int .u32 0] w fun e w' => e = .returned (.bool true) ∧ Below w.heap.size w w' := by
  have t1 : decide (n < 0) = false := by simp; omega
  have t2 : decide ((b.length : Int) ≤ n) = false := by simp; omega
  go_enter Try.func5, Try.ntmps5
  go_wp2_with fail
  refine (awake_any _).mono ?_
  rintro e w1 ⟨rfl, hb⟩
  go_wp2_with fail
  go_ret
  exact ⟨rfl, hb⟩
theorem sumApart_all (b : List UInt8) (B : Option Addr) (cb : Nat) (n : Int) (s : BitVec 32) (w : World) (hb : RdB w w.heap.size B b) (lb : b.length ≤ cb) (hb' : cb ≤ 140737488351232) :
    Calls Try.prog 5 #[.slice B b.length cb, .int .i64 n, .int .u32 (s.toNat : Int)] w fun e w' => e = .returned (.bool true) ∧ Below w.heap.size w w' := by
  by_cases h0 : n < 0
  · exact sumApart_low b B cb n _ w h0
  · by_cases h1 : n < b.length
    · by_cases hs : s.toNat = 0
      · rw [hs]
        exact sumApart_none b B cb n w (by omega) h1
      · exact sumApart_walk b B cb n s w hb lb hb' (by omega) h1 hs
    · exact sumApart_high b B cb n _ w (by omega) (by omega)
end Go.Proofs.Ytihllggpeglbnaa
