/- The walk of NumBack. -/
import Derived.Test.YtbiinlkdgankkaaNumText
import Derived.Test.YtbiinlkdgankkaaNumTakeFix
import Derived.Test.YtbiinlkdgankkaaFrame
namespace Go.Proofs.Ytbiinlkdgankkaa
set_option linter.unusedVariables false
open Go.RowKit

theorem Num.takeText_tx (s more : List UInt8) (hs : s.length < 18446744073709551616) : Num.takeText (Num.tx s ++ more) (s.length : Int) = (s, (Num.tx s).length, 0) := by
  unfold Num.tx
  rw [Num.takeText, if_neg (by omega), List.append_assoc, Num.take_uv hs, if_neg (by simp), if_neg (by simp), if_neg (by simp)]
  simp

set_option maxHeartbeats 1000000 in
set_option maxRecDepth 20000 in
theorem numBack_walk (n : BitVec 64) (s : ByteArray) (width : Int) (b : List UInt8) (B : Option Addr) (cb : Nat) (w : World) (hs : s.size ≤ 1048576) (lo : -9223372036854775808 ≤ width) (hi8 : width ≤ 9223372036854775807)
    (hb : RdB w w.heap.size B b) (hl : b.length ≤ cb) (hc : cb ≤ 140737488351232) (hbl : b.length ≤ 1048576) :
    Calls Try.prog 10 #[.int .u64 (n.toNat : Int), .string s, .int .i64 width, .slice B b.length cb] w fun e w' => e = .returned (.bool true) ∧ Below w.heap.size w w' := by
  obtain ⟨i0, hi, hz0, hz1, hz2⟩ := info_parts u8info
  have HN : Hid (n.toNat < 18446744073709551616) := n.isLt
  have H1 := hide (uvar_any n.toNat w (unhide HN))
  have H2 := hide (fun w => text_any s s.size w (by omega) (by omega) (by omega))
  have e2 : Num.text s.data.toList (s.size : Int) = (Num.tx s.data.toList, 0) := Num.text_ok (by omega) (by rw [size_list]; omega)
  rw [e2] at H2
  clear e2
  have T1 := hide (Num.take_uv (unhide HN) b)
  have hu := Num.uv_len64 (unhide HN)
  generalize Num.uv n.toNat = x at *
  go_enter Try.func10, Try.ntmps10
  go_wp2_with fail
  refine (unhide H1).mono ?_
  rintro e w1 ⟨A1, c1, rfl, hown1, hbel1, hcc1⟩
  have HB1 := hide hbel1
  have hsz1 := hbel1.size
  have Hb1 := hide (hb.below hbel1)
  have HR := hide (((unhide Hb1).more hsz1).v)
  clear hbel1 hb H1
  go_wp2_with (at_builtin
               refine wpList_append_any _ rfl (.tmp 23) (.tmp 24) _ rfl w.heap.size 5 i0 _ 1 1 Try.underlying23 hi hz0 hz1 hz2 rfl (by omega) _ _ _ rfl
                 hown1 _ B b.length cb _ rfl (unhide HR) (by simp) oneCell_Bv (by simp only [maxLen]; omega) (by omega) hsz1 ?_
               intro A2 c2 w2 hown2 _ _ hbel2 hcc2)
  rw [← List.map_append] at hown2
  have HR2 := hide (RdB.of_own hown2)
  have HB2 := hide ((unhide HB1).trans hbel2)
  have hsz2 := (unhide HB2).size
  have Hb2 := hide ((unhide Hb1).below hbel2)
  have HT := hide (takeUvar_n (x ++ b) A2 (x.length + b.length) c2 _ w2 (unhide HR2) (by simp) (by omega))
  rw [unhide T1] at HT
  clear hown1 hown2 hbel2 HR HR2 T1 hsz1
  have f1 : ((x.length : Int) + (b.length : Int) - (x.length : Int) != (b.length : Int)) = false := by simp; omega
  refine (unhide HT).mono ?_
  rintro e w3 ⟨rfl, rfl⟩
  clear HT
  go_wp2_with fail
  refine (unhide H2 w2).mono ?_
  rintro e w3 ⟨A3, c3, rfl, hown3, hbel3, hcc3⟩
  have hy2 : (Num.tx s.data.toList).length ≤ 1048586 := by
    have h1 := Num.uv_len64 (n := s.size) (by omega)
    unfold Num.tx
    rw [List.length_append, size_list]
    omega
  have T2 := hide (Num.takeText_tx s.data.toList b (by rw [size_list]; omega))
  rw [size_list] at T2
  have HB3 := hide ((unhide HB2).trans (hbel3.mono hsz2))
  have hsz3 := hbel3.size
  have Hb3 := hide (((unhide Hb2).below (hbel3.mono hsz2)))
  have HR3 := hide (((unhide Hb3).more (unhide HB3).size).v)
  clear H2 Hb2 HB2 hbel3
  generalize Num.tx s.data.toList = y at *
  go_wp2_with (at_builtin
               refine wpList_append_any _ rfl (.tmp 56) (.tmp 57) _ rfl w2.heap.size 5 i0 _ 1 1 Try.underlying23 hi hz0 hz1 hz2 rfl (by omega) _ _ _ rfl
                 hown3 _ B b.length cb _ rfl (unhide HR3) (by simp) oneCell_Bv (by simp only [maxLen]; omega) (by omega) hsz3 ?_
               intro A4 c4 w4 hown4 _ _ hbel4 hcc4)
  rw [← List.map_append] at hown4
  have HB4 := hide ((unhide HB3).trans (hbel4.mono hsz2))
  have hsz4 := (unhide HB4).size
  have Hb4 := hide ((unhide Hb3).below (hbel4.mono hsz2))
  have HT := hide (takeText_any (y ++ b) A4 c4 _ s.size w4 (RdB.of_own hown4) (by simp; omega) (by simp; omega) (own_cap hown4) (by omega) (by omega))
  rw [unhide T2] at HT
  have e4 : (y ++ b).length = y.length + b.length := by simp
  rw [e4] at HT
  clear hown3 hown4 hbel4 HR3 T2 e4 hsz3 hsz2 f1 HB3 Hb3
  refine (unhide HT).mono ?_
  rintro e w5 ⟨rfl, rfl⟩
  clear HT
  have H3 := hide (fixed_any n.toNat width w4 (unhide HN) lo hi8)
  by_cases hfe : (Num.fixed n.toNat width).2 = 0
  · have hw : 1 ≤ width ∧ width ≤ 8 := by
      by_cases h : width < 1 ∨ 8 < width
      · rw [Num.fixed_arg h] at hfe; simp at hfe
      · omega
    obtain ⟨v, rfl⟩ := Int.eq_ofNat_of_zero_le (show 0 ≤ width by omega)
    have hlong : n.toNat / 256 ^ v = 0 := by
      apply Classical.byContradiction
      intro h
      rw [Num.fixed_long (by omega) (by omega) h] at hfe
      simp at hfe
    have hfo := Num.fixed_ok (show 1 ≤ v by omega) (show v ≤ 8 by omega) hlong
    rw [hfo] at H3
    have T3 : Hid (Num.takeFixed (Num.fx v n.toNat ++ b) (v : Int) = (n.toNat, 0)) := by
      show _ = _
      rw [Num.takeFixed_ok (by omega) (by omega) (by rw [List.length_append, Num.fx_length]; omega), List.take_append_of_le_length (by rw [Num.fx_length]; omega), List.take_of_length_le (by rw [Num.fx_length]; omega), Num.tf_fx]
      have hp : 0 < 256 ^ v := Nat.pow_pos (by omega)
      rw [Nat.mod_eq_of_lt ((Nat.div_eq_zero_iff_lt hp).1 hlong)]
      simp
    have hfl := Num.fx_length v n.toNat
    have HFL := hide hfl
    clear hfo hlong hfe hfl
    generalize Num.fx v n.toNat = z at H3 T3 HFL
    go_wp2_with fail
    refine (unhide H3).mono ?_
    rintro e w5 ⟨A5, c5, rfl, hown5, hbel5, hcc5⟩
    have HB5 := hide ((unhide HB4).trans (hbel5.mono hsz4))
    have hsz5 := hbel5.size
    have Hb5 := hide ((unhide Hb4).below (hbel5.mono hsz4))
    have HR5 := hide (((unhide Hb5).more (unhide HB5).size).v)
    have hz3 : z.length ≤ 8 := by rw [unhide HFL]; omega
    clear H3 hbel5
    go_wp2_with (at_builtin
                 refine wpList_append_any _ rfl (.tmp 97) (.tmp 98) _ rfl w4.heap.size 5 i0 _ 1 1 Try.underlying23 hi hz0 hz1 hz2 rfl (by omega) _ _ _ rfl
                   hown5 _ B b.length cb _ rfl (unhide HR5) (by simp) oneCell_Bv (by simp only [maxLen]; omega) (by omega) hsz5 ?_
                 intro A6 c6 w6 hown6 _ _ hbel6 hcc6)
    rw [← List.map_append] at hown6
    have HB6 := hide ((unhide HB5).trans (hbel6.mono hsz4))
    have HT := hide (takeFixed_any (z ++ b) A6 c6 _ v w6 (RdB.of_own hown6) (by simp; omega) (own_cap hown6) (by omega) (by omega))
    rw [unhide T3] at HT
    have e6 : (z ++ b).length = z.length + b.length := by simp
    rw [e6] at HT
    have hsz6 := (unhide HB6).size
    have fz : ((z.length : Int) == (v : Int)) = true := by rw [unhide HFL]; simp
    clear hown5 hown6 hbel6 HR5 T3 e6 hsz5 HB5 Hb5 HB4 Hb4
    refine (unhide HT).mono ?_
    rintro e w7 ⟨rfl, rfl⟩
    clear HT
    go_wp2_with fail
    refine (awake_any _).mono ?_
    rintro e w7 ⟨rfl, hb7⟩
    go_wp2_with fail
    go_ret
    exact ⟨rfl, (unhide HB6).trans (hb7.mono hsz6)⟩
  · have hbad : ∃ er : Int, 0 < er ∧ Num.fixed n.toNat width = ([], er) := by
      by_cases h : width < 1 ∨ 8 < width
      · exact ⟨1, by omega, Num.fixed_arg h⟩
      · obtain ⟨v, rfl⟩ := Int.eq_ofNat_of_zero_le (show 0 ≤ width by omega)
        by_cases hlong : n.toNat / 256 ^ v = 0
        · rw [Num.fixed_ok (by omega) (by omega) hlong] at hfe; simp at hfe
        · exact ⟨6, by omega, Num.fixed_long (by omega) (by omega) hlong⟩
    obtain ⟨er, her, hf⟩ := hbad
    rw [hf] at H3
    clear hfe hf
    go_wp2_with fail
    refine (unhide H3).mono ?_
    rintro e w5 ⟨A5, c5, rfl, hown5, hbel5, hcc5⟩
    have HB5 := hide ((unhide HB4).trans (hbel5.mono hsz4))
    have hsz5 := (unhide HB5).size
    clear H3 hown5 hbel5 HB4
    have fe : ((er : Int) != 0) = true := by rw [bne_iff_ne]; omega
    go_wp2_with fail
    refine (awake_any _).mono ?_
    rintro e w7 ⟨rfl, hb7⟩
    go_wp2_with fail
    go_ret
    exact ⟨rfl, (unhide HB5).trans (hb7.mono hsz5)⟩
end Go.Proofs.Ytbiinlkdgankkaa
