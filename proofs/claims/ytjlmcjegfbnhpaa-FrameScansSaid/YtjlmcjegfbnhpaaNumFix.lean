/- The walks of Fixed and TakeFixed, num's and the document's. -/
import Derived.Test.YtjlmcjegfbnhpaaNumWrite
import Derived.Test.YtjlmcjegfbnhpaaNumFixMath
namespace Go.Proofs.Ytjlmcjegfbnhpaa
set_option linter.unusedVariables false
open Go.RowKit

/-- the call answers new bytes and an error -/
def FreshBE (w : World) (l : List UInt8) (err : Int) (e : Ending) (w' : World) : Prop :=
  ∃ A c, e = .returned (.tuple #[.slice A l.length c, .int .i64 err]) ∧ w'.ownsRow w.heap.size 5 1 (.slice A l.length c) l.length (l.map Bv) ∧ Below w.heap.size w w' ∧ l.length ≤ c
theorem freshBE_none (w : World) (err : Int) : FreshBE w [] err (.returned (.tuple #[.slice none 0 0, .int .i64 err])) w :=
  ⟨none, 0, rfl, own_nil _ _ _ _, Below.refl _ _, Nat.le_refl _⟩

theorem Num.pow8 (k : Nat) : (2 : Nat) ^ (8 * k) = 256 ^ k := by rw [Nat.pow_mul]
/-- what 'out' holds behind k rounds -/
def Num.row (w n k : Nat) : List UInt8 := (Num.fx w n).take k ++ List.replicate (w - k) 0
theorem Num.row_zero (w n : Nat) : ((Num.row w n 0).map Bv).toArray = madeCells #[.int .u8 0] w := by
  have e := toList_madeCells_one (.int .u8 0) w
  have h : madeCells #[.int .u8 0] w = (List.replicate w (.int .u8 0)).toArray := by rw [← e]
  rw [h]
  simp [Num.row, Bv]
theorem Num.row_full (w n : Nat) : Num.row w n w = Num.fx w n := by
  unfold Num.row
  rw [List.take_of_length_le (by rw [Num.fx_length]; omega)]
  simp
theorem Num.row_set (w n k : Nat) (hk : k < w) : ((Num.row w n k).map Bv).toArray.setIfInBounds k (Bv (UInt8.ofNat (n / 256 ^ (w - 1 - k)))) = ((Num.row w n (k + 1)).map Bv).toArray := by
  have hx : k < (Num.fx w n).length := by rw [Num.fx_length]; exact hk
  apply Array.ext'
  rw [Array.toList_setIfInBounds]
  show ((Num.row w n k).map Bv).set k _ = (Num.row w n (k + 1)).map Bv
  rw [← List.map_set]
  congr 1
  unfold Num.row
  have e1 : w - k = (w - (k + 1)) + 1 := by omega
  have e2 : (Num.fx w n).take (k + 1) = (Num.fx w n).take k ++ [(Num.fx w n)[k]] := List.take_succ_eq_append_getElem hx
  rw [e1, List.replicate_succ, e2, Num.fx_get w n k hk, List.set_append_right _ _ (by simp; omega)]
  have e4 : k - ((Num.fx w n).take k).length = 0 := by simp; omega
  rw [e4]
  simp

theorem Num.bv_shr (n e : Nat) : Value.int IntKind.u8 ((n : Int) / 2 ^ (8 * e) % 256) = Bv (UInt8.ofNat (n / 256 ^ e)) := by
  unfold Bv
  rw [UInt8.toNat_ofNat', ← Num.pow8, Int.natCast_emod, Int.natCast_ediv, Int.natCast_pow]
  rfl
theorem own_blk {w : World} {base g : Nat} {t : TypeId} {n : Nat} {xs : List Value} (h : Blk w g t xs.toArray) (hb : base ≤ g) (hm : n ≤ maxLen) (hx : xs.length = n) : w.ownsRow base t 1 (.slice (some ⟨g, 0, none⟩) n n) n xs :=
  ⟨by simpa using hx, .inr ⟨g, n, _, rfl, hb, h, Nat.le_refl _, hm, by simpa using hx, by simp [List.take_of_length_le, hx]⟩⟩

set_option maxHeartbeats 1000000 in
set_option maxRecDepth 20000 in
theorem fixed_any (n : Nat) (width : Int) (w : World) (hn : n < 18446744073709551616) (lo : -9223372036854775808 ≤ width) (hi8 : width ≤ 9223372036854775807) :
    Calls Try.prog 19 #[.int .u64 (n : Int), .int .i64 width] w (FreshBE w (Num.fixed n width).1 (Num.fixed n width).2) := by
  obtain ⟨i0, hi, hz0, hz1, hz2⟩ := info_parts u8info
  by_cases hw : width < 1 ∨ 8 < width
  · have HF := hide (Num.fixed_arg (n := n) hw)
    rw [unhide HF]
    rcases hw with hw | hw
    · go_enter Try.func19, Try.ntmps19
      go_wp2
      go_ret2
      exact freshBE_none w 1
    · have hw1 : 1 ≤ width := by omega
      go_enter Try.func19, Try.ntmps19
      go_wp2
      go_ret2
      exact freshBE_none w 1
  · obtain ⟨v, rfl⟩ := Int.eq_ofNat_of_zero_le (show 0 ≤ width by omega)
    have h1 : 1 ≤ v := by omega
    have h8 : v ≤ 8 := by omega
    clear hw lo hi8
    by_cases hlong : n / 256 ^ v = 0
    · have HF := hide (Num.fixed_ok h1 h8 hlong)
      rw [unhide HF]
      have HL : Hid (((n : Int) / 2 ^ (8 * v) != 0) = false) := by
        show _ = false
        have e : ((n : Int) / 2 ^ (8 * v)) = ((n / 256 ^ v : Nat) : Int) := by rw [← Num.pow8, Int.natCast_ediv, Int.natCast_pow]; rfl
        rw [e, hlong]; rfl
      have hmk := fun u : World => run_make (P := Try.prog) u 22 5 i0 (.int .u8 0) Try.underlying22 hi hz0 .i64 .i64 (v : Int) (v : Int) (by omega) (Int.le_refl _) (by rw [hz2]; omega) (by omega)
      simp only [Int.toNat_natCast, hz1] at hmk
      clear hlong
      have hl := unhide HL
      rcases Nat.lt_or_ge v 8 with hv8 | hv8
      · go_enter Try.func19, Try.ntmps19
        go_wp2
        go_loopw [27] (fun i wr => ∃ k : Nat, k ≤ v ∧ i = .int .i64 k ∧ Blk wr w.heap.size 5 ((Num.row v n k).map Bv).toArray ∧ Below w.heap.size w wr) (fun i _ => v - (intOf i).toNat)
        case atStart =>
          refine ⟨0, Nat.zero_le _, rfl, ?_, (Below.refl _ _).alloc (Nat.le_refl _) _⟩
          rw [Num.row_zero]
          exact Blk.new _ _ _
        case round =>
          obtain ⟨k, hk, rfl, hblk, hbel⟩ := hrel
          by_cases hlt : k < v
          · obtain ⟨v0, hcx⟩ : ∃ u, wr.cell? ⟨w.heap.size, k, none⟩ = some u := ⟨_, (hblk.cell k).trans (Array.getElem?_eq_getElem (by simp [Num.row, Num.fx_length]; omega))⟩
            have hfz := hblk.frozen k
            have HB := hide hblk
            have HE := hide hbel
            clear hblk hbel
            go_wp2
            refine ⟨⟨k + 1, by omega, by go_num, ?_, (unhide HE).setCell (Nat.le_refl _) _⟩, by simp [intOf]; omega⟩
            rw [← Num.row_set v n k hlt, Num.bv_shr]
            exact (unhide HB).set_ k _
          · obtain rfl : k = v := by omega
            rw [Num.row_full] at hblk
            have HB := hide hblk
            have HE := hide hbel
            clear hblk hbel hmk
            go_wp2
            go_ret2
            have hl := Num.fx_length k n
            refine ⟨some ⟨w.heap.size, 0, none⟩, k, by rw [hl]; rfl, ?_, unhide HE, by rw [hl]; exact Nat.le_refl _⟩
            rw [hl]
            exact own_blk (unhide HB) (Nat.le_refl _) (by simp [maxLen]; omega) (by simp [hl])
      · go_enter Try.func19, Try.ntmps19
        go_wp2
        go_loopw [27] (fun i wr => ∃ k : Nat, k ≤ v ∧ i = .int .i64 k ∧ Blk wr w.heap.size 5 ((Num.row v n k).map Bv).toArray ∧ Below w.heap.size w wr) (fun i _ => v - (intOf i).toNat)
        case atStart =>
          refine ⟨0, Nat.zero_le _, rfl, ?_, (Below.refl _ _).alloc (Nat.le_refl _) _⟩
          rw [Num.row_zero]
          exact Blk.new _ _ _
        case round =>
          obtain ⟨k, hk, rfl, hblk, hbel⟩ := hrel
          by_cases hlt : k < v
          · obtain ⟨v0, hcx⟩ : ∃ u, wr.cell? ⟨w.heap.size, k, none⟩ = some u := ⟨_, (hblk.cell k).trans (Array.getElem?_eq_getElem (by simp [Num.row, Num.fx_length]; omega))⟩
            have hfz := hblk.frozen k
            have HB := hide hblk
            have HE := hide hbel
            clear hblk hbel
            go_wp2
            refine ⟨⟨k + 1, by omega, by go_num, ?_, (unhide HE).setCell (Nat.le_refl _) _⟩, by simp [intOf]; omega⟩
            rw [← Num.row_set v n k hlt, Num.bv_shr]
            exact (unhide HB).set_ k _
          · obtain rfl : k = v := by omega
            rw [Num.row_full] at hblk
            have HB := hide hblk
            have HE := hide hbel
            clear hblk hbel hmk
            go_wp2
            go_ret2
            have hl := Num.fx_length k n
            refine ⟨some ⟨w.heap.size, 0, none⟩, k, by rw [hl]; rfl, ?_, unhide HE, by rw [hl]; exact Nat.le_refl _⟩
            rw [hl]
            exact own_blk (unhide HB) (Nat.le_refl _) (by simp [maxLen]; omega) (by simp [hl])
    · have HF := hide (Num.fixed_long h1 h8 hlong)
      rw [unhide HF]
      have hv8 : v < 8 := by
        rcases Nat.lt_or_ge v 8 with h | h
        · exact h
        · obtain rfl : v = 8 := by omega
          exact absurd (Nat.div_eq_of_lt (by have : (256 : Nat) ^ 8 = 18446744073709551616 := by decide
                                             omega)) hlong
      have hl : ((n : Int) / 2 ^ (8 * v) != 0) = true := by
        have e : ((n : Int) / 2 ^ (8 * v)) = ((n / 256 ^ v : Nat) : Int) := by rw [← Num.pow8, Int.natCast_ediv, Int.natCast_pow]; rfl
        rw [e, bne_iff_ne]
        omega
      clear hlong
      go_enter Try.func19, Try.ntmps19
      go_wp2
      go_ret2
      exact freshBE_none w 6

set_option maxHeartbeats 1000000 in
set_option maxRecDepth 20000 in
theorem refFixed_any (n : Nat) (width : Int) (w : World) (hn : n < 18446744073709551616) (lo : -9223372036854775808 ≤ width) (hi8 : width ≤ 9223372036854775807) :
    Calls Try.prog 21 #[.int .u64 (n : Int), .int .i64 width] w (FreshBE w (Num.fixed n width).1 (Num.fixed n width).2) := by
  obtain ⟨i0, hi, hz0, hz1, hz2⟩ := info_parts u8info
  by_cases hw : width < 1 ∨ 8 < width
  · have HF := hide (Num.fixed_arg (n := n) hw)
    rw [unhide HF]
    rcases hw with hw | hw
    · go_enter Try.func21, Try.ntmps21
      go_wp2
      go_ret2
      exact freshBE_none w 1
    · have hw1 : 1 ≤ width := by omega
      go_enter Try.func21, Try.ntmps21
      go_wp2
      go_ret2
      exact freshBE_none w 1
  · obtain ⟨v, rfl⟩ := Int.eq_ofNat_of_zero_le (show 0 ≤ width by omega)
    have h1 : 1 ≤ v := by omega
    have h8 : v ≤ 8 := by omega
    clear hw lo hi8
    go_enter Try.func21, Try.ntmps21
    go_wp2
    go_loopw [0, 6, 7] (fun t o i wr => ∃ (k m : Nat) (A : Option Addr) (c : Nat), k ≤ v ∧ m = n / 256 ^ k ∧ m ≤ n ∧ i = .int .i64 k ∧ t = .int .u64 (m : Int) ∧ o = .slice A k c ∧
        wr.ownsRow w.heap.size 5 1 (.slice A k c) k ((Num.fx k n).map Bv) ∧ Below w.heap.size w wr) (fun _ _ i _ => v - (intOf i).toNat)
    case atStart => exact ⟨0, n, some ⟨w.heap.size, 0, none⟩, 0, by omega, by simp, Nat.le_refl _, rfl, rfl, rfl, own_new w _ #[] _ 0 _ (Nat.le_refl _) (by simp [maxLen]) rfl rfl, (Below.refl _ _).alloc (Nat.le_refl _) _⟩
    case round =>
      obtain ⟨k, m, A, c, hk, hm, hmn, rfl, rfl, rfl, hown, hbel⟩ := hrel
      have HM := hide hm
      have HB := hide hbel
      have hsz := hbel.size
      clear hm hbel
      by_cases hlt : k < v
      · have HO := hide hown
        have hne := own_new wr wr.heap.size #[Value.int IntKind.u8 ((m : Int) % 256)] 5 1 _ (Nat.le_refl _) (by simp [maxLen]) rfl rfl
        have hne2 := own_more hne (base' := w.heap.size) (by intro q hq; simp [Value.ownBlock] at hq; omega)
        clear hne hown
        go_wp2_with (at_builtin
                     refine wpList_append_any _ rfl (.tmp 23) (.tmp 24) _ rfl w.heap.size 5 i0 _ 1 1 Try.underlying22 hi hz0 hz1 hz2 rfl (by omega) _ 1 _ rfl
                       hne2 _ A k c _ rfl ((RdV.of_own (unhide HO)).keep (fun p hp => World.cell?_alloc_lt _ _ p hp)) (by simp [Num.fx_length]) oneCell_Bv (by simp only [maxLen]; omega) (by omega) (by simp; omega) ?_
                     intro A1 c1 w1 hown1 _ _ hbel1 hcc)
        have e1 : 1 + k = k + 1 := Nat.add_comm 1 k
        rw [e1] at hown1 ⊢
        refine ⟨⟨k + 1, m / 256, A1, c1, by omega, ?_, by omega, by go_num, by go_num, rfl, ?_, ((unhide HB).alloc hsz _).trans hbel1⟩, by simp [intOf]; omega⟩
        · rw [unhide HM, Nat.div_div_eq_div_mul, Nat.pow_succ]
        · have e2 : (Num.fx (k + 1) n).map Bv = #[Value.int IntKind.u8 ((m : Int) % 256)].toList ++ (Num.fx k n).map Bv := by
            have e3 : Bv (UInt8.ofNat (n / 256 ^ k)) = Value.int IntKind.u8 ((m : Int) % 256) := by rw [← unhide HM]; unfold Bv; rw [Num.low8]
            rw [Num.fx, List.map_cons, e3]
            rfl
          rw [e2]
          exact hown1
      · obtain rfl : k = v := by omega
        by_cases hlong : n / 256 ^ k = 0
        · have HF := hide (Num.fixed_ok h1 h8 hlong)
          have hm0 : m ≤ 0 := by rw [unhide HM]; omega
          clear hlong
          go_wp2
          go_ret2
          rw [unhide HF]
          have hl := Num.fx_length k n
          exact ⟨A, c, by rw [hl]; rfl, by rw [hl]; exact hown, unhide HB, by
            rw [hl]
            obtain ⟨A', c', hv, hc, _⟩ := own_form hown
            injection hv with _ _ h3
            omega⟩
        · have HF := hide (Num.fixed_long h1 h8 hlong)
          have hm0 : 0 < m := Nat.pos_of_ne_zero (by rw [unhide HM]; exact hlong)
          clear hlong
          go_wp2
          go_ret2
          rw [unhide HF]
          exact ⟨none, 0, rfl, own_nil _ _ _ _, unhide HB, Nat.le_refl _⟩

end Go.Proofs.Ytjlmcjegfbnhpaa
