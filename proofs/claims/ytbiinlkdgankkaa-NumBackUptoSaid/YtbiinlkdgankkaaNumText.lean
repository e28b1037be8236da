/- The walks of Text and TakeText, num's and the document's. -/
import Derived.Test.YtbiinlkdgankkaaNumWrite
import Derived.Test.YtbiinlkdgankkaaNumTakeRef
import Derived.Test.YtbiinlkdgankkaaNumFix
import Derived.Lib.AppendStr
import Derived.Lib.Strings
namespace Go.Proofs.Ytbiinlkdgankkaa
set_option linter.unusedVariables false
open Go.RowKit

theorem refTakeUvar_n (l : List UInt8) (A : Option Addr) (n c B : Nat) (w : World) (hr : RdB w B A l) (hn : l.length = n) (hl : n ≤ 4611686018427387904) :
    Calls Try.prog 12 #[.slice A n c] w fun e w' => e = .returned (.tuple #[.int .u64 ((Num.take l).1 : Int), .int .i64 ((Num.take l).2.1 : Int), .int .i64 (Num.take l).2.2]) ∧ w = w' := by
  subst hn
  exact refTakeUvar_any l A c B w hr hl

/-- a text behind its count -/
def Num.tx (s : List UInt8) : List UInt8 := Num.uv s.length ++ s
def Num.text (s : List UInt8) (most : Int) : List UInt8 × Int := if most < 0 then ([], 1) else if most < (s.length : Int) then ([], 6) else (Num.tx s, 0)
theorem Num.text_arg {s : List UInt8} {most : Int} (h : most < 0) : Num.text s most = ([], 1) := by rw [Num.text, if_pos h]
theorem Num.text_long {s : List UInt8} {most : Int} (h : 0 ≤ most) (h2 : most < (s.length : Int)) : Num.text s most = ([], 6) := by rw [Num.text, if_neg (by omega), if_pos h2]
theorem Num.text_ok {s : List UInt8} {most : Int} (h : 0 ≤ most) (h2 : (s.length : Int) ≤ most) : Num.text s most = (Num.tx s, 0) := by rw [Num.text, if_neg (by omega), if_neg (by omega)]
theorem size_list (s : ByteArray) : s.data.toList.length = s.size := by rw [Array.length_toList]; rfl
theorem strCells_Bv (s : ByteArray) : Lib.strCells s = s.data.toList.map Bv := rfl

set_option maxHeartbeats 1000000 in
set_option maxRecDepth 20000 in
theorem text_any (s : ByteArray) (most : Int) (w : World) (hs : s.size ≤ 140737488351232) (lo : -9223372036854775808 ≤ most) (hi8 : most ≤ 9223372036854775807) :
    Calls Try.prog 18 #[.string s, .int .i64 most] w (FreshBE w (Num.text s.data.toList most).1 (Num.text s.data.toList most).2) := by
  obtain ⟨i0, hi, hz0, hz1, hz2⟩ := info_parts u8info
  have hsl := size_list s
  by_cases h0 : most < 0
  · rw [Num.text_arg h0]
    clear hsl
    go_enter Try.func18, Try.ntmps18
    go_wp2
    go_ret2
    exact freshBE_none w 1
  · by_cases h1 : most < (s.size : Int)
    · rw [Num.text_long (by omega) (by rw [hsl]; exact h1)]
      clear hsl
      have h00 : 0 ≤ most := by omega
      go_enter Try.func18, Try.ntmps18
      go_wp2
      go_ret2
      exact freshBE_none w 6
    · rw [Num.text_ok (by omega) (by rw [hsl]; omega)]
      have HSL := hide hsl
      have hlen := Num.uv_len64 (n := s.size) (by omega)
      have HU := hide (uvar_any s.size w (by omega))
      have h00 : 0 ≤ most := by omega
      clear hsl h0
      go_enter Try.func18, Try.ntmps18
      go_wp2_with fail
      refine (unhide HU).mono ?_
      rintro e w1 ⟨A1, c1, rfl, hown, hbel, hcc⟩
      have HB := hide hbel
      have hsz := hbel.size
      clear hbel
      go_wp2_with (at_builtin
                   refine Lib.wpList_append_own_string _ rfl (.tmp 15) (.tmp 16) 23 9 rfl w.heap.size 5 i0 Try.underlying23 Try.underlying9 hi hz0 hz1 hz2 _ _ _ rfl hown s rfl (by simp only [maxLen]; omega) (by omega) hsz ?_
                   intro v2 w2 hown2 hg2 _
                   obtain ⟨A2, c2, rfl, hcc2, _⟩ := own_form hown2)
      go_ret2
      have e1 : (Num.tx s.data.toList).length = (Num.uv s.size).length + s.size := by unfold Num.tx; rw [List.length_append, unhide HSL]
      refine ⟨A2, c2, by rw [e1]; rfl, ?_, (unhide HB).grown hg2 hsz (fun k hk => (hown.lt k hk).1), by rw [e1]; exact hcc2⟩
      rw [e1]
      have e2 : (Num.tx s.data.toList).map Bv = (Num.uv s.size).map Bv ++ Lib.strCells s := by unfold Num.tx; rw [List.map_append, unhide HSL]; rfl
      rw [e2]
      exact hown2

set_option maxHeartbeats 1000000 in
set_option maxRecDepth 20000 in
theorem refText_any (s : ByteArray) (most : Int) (w : World) (hs : s.size ≤ 140737488351232) (lo : -9223372036854775808 ≤ most) (hi8 : most ≤ 9223372036854775807) :
    Calls Try.prog 19 #[.string s, .int .i64 most] w (FreshBE w (Num.text s.data.toList most).1 (Num.text s.data.toList most).2) := by
  obtain ⟨i0, hi, hz0, hz1, hz2⟩ := info_parts u8info
  have hsl := size_list s
  by_cases h0 : most < 0
  · rw [Num.text_arg h0]
    clear hsl
    go_enter Try.func19, Try.ntmps19
    go_wp2
    go_ret2
    exact freshBE_none w 1
  · by_cases h1 : most < (s.size : Int)
    · rw [Num.text_long (by omega) (by rw [hsl]; exact h1)]
      clear hsl
      have h00 : 0 ≤ most := by omega
      go_enter Try.func19, Try.ntmps19
      go_wp2
      go_ret2
      exact freshBE_none w 6
    · rw [Num.text_ok (by omega) (by rw [hsl]; omega)]
      have HSL := hide hsl
      have hlen := Num.uv_len64 (n := s.size) (by omega)
      have HU := hide (refUvar_any s.size s.size w (Nat.le_refl _) (by omega))
      have h00 : 0 ≤ most := by omega
      clear hsl h0
      go_enter Try.func19, Try.ntmps19
      go_wp2_with fail
      refine (unhide HU).mono ?_
      rintro e w1 ⟨A1, c1, rfl, hown, hbel, hcc⟩
      have HB := hide hbel
      have hsz := hbel.size
      clear hbel
      go_wp2_with (at_builtin
                   refine Lib.wpList_append_own_string _ rfl (.tmp 15) (.tmp 16) 23 9 rfl w.heap.size 5 i0 Try.underlying23 Try.underlying9 hi hz0 hz1 hz2 _ _ _ rfl hown s rfl (by simp only [maxLen]; omega) (by omega) hsz ?_
                   intro v2 w2 hown2 hg2 _
                   obtain ⟨A2, c2, rfl, hcc2, _⟩ := own_form hown2)
      go_ret2
      have e1 : (Num.tx s.data.toList).length = (Num.uv s.size).length + s.size := by unfold Num.tx; rw [List.length_append, unhide HSL]
      refine ⟨A2, c2, by rw [e1]; rfl, ?_, (unhide HB).grown hg2 hsz (fun k hk => (hown.lt k hk).1), by rw [e1]; exact hcc2⟩
      rw [e1]
      have e2 : (Num.tx s.data.toList).map Bv = (Num.uv s.size).map Bv ++ Lib.strCells s := by unfold Num.tx; rw [List.map_append, unhide HSL]; rfl
      rw [e2]
      exact hown2


/-- the text at the front: the text, the bytes, the error -/
def Num.takeText (b : List UInt8) (most : Int) : List UInt8 × Nat × Int :=
  if most < 0 then ([], 0, 1) else if (Num.take b).2.2 ≠ 0 then ([], 0, (Num.take b).2.2) else
    if most < ((Num.take b).1 : Int) then ([], 0, 6) else if b.length < (Num.take b).2.1 + (Num.take b).1 then ([], 0, 2) else
      ((b.drop (Num.take b).2.1).take (Num.take b).1, (Num.take b).2.1 + (Num.take b).1, 0)
set_option maxHeartbeats 1000000 in
set_option maxRecDepth 20000 in
theorem takeText_any (b : List UInt8) (A : Option Addr) (c B : Nat) (most : Int) (w : World) (hr : RdB w B A b) (hc : b.length ≤ c) (hbl : b.length ≤ 4611686018427387904) (hl : c ≤ 9223372036854775807) (lo : -9223372036854775808 ≤ most) (hi8 : most ≤ 9223372036854775807) :
    Calls Try.prog 20 #[.slice A b.length c, .int .i64 most] w fun e w' => e = .returned (.tuple #[.string ⟨(Num.takeText b most).1.toArray⟩, .int .i64 ((Num.takeText b most).2.1 : Int), .int .i64 (Num.takeText b most).2.2]) ∧ w = w' := by
  by_cases h0 : most < 0
  · have HF : Hid (Num.takeText b most = ([], 0, 1)) := by show _ = _; rw [Num.takeText, if_pos h0]
    rw [unhide HF]
    go_enter Try.func20, Try.ntmps20
    go_wp2
    go_ret3
    exact ⟨rfl, rfl⟩
  · have H1 := hide (takeUvar_n b A _ c B w hr rfl (by omega))
    have h00 : 0 ≤ most := by omega
    rcases Num.tk_cases b 0 0 with ⟨n, k, hx⟩ | hx | hx
    · have hx : Num.take b = (n, k, 0) := hx
      have ho := Num.take_only hx
      have hk := ho.2.2.1
      have hn := ho.2.2.2
      have HX := hide hx
      rw [hx] at H1
      clear hx ho h0
      by_cases h6 : most < (n : Int)
      · have HF : Hid (Num.takeText b most = ([], 0, 6)) := by show _ = _; rw [Num.takeText, if_neg (by omega), unhide HX, if_neg (by simp), if_pos h6]
        rw [unhide HF]
        go_enter Try.func20, Try.ntmps20
        go_wp2_with fail
        refine (unhide H1).mono ?_
        rintro e w1 ⟨rfl, rfl⟩
        clear H1
        go_wp2
        go_ret3
        exact ⟨rfl, rfl⟩
      · by_cases h2 : b.length < k + n
        · have HF : Hid (Num.takeText b most = ([], 0, 2)) := by show _ = _; rw [Num.takeText, if_neg (by omega), unhide HX, if_neg (by simp), if_neg h6, if_pos h2]
          rw [unhide HF]
          go_enter Try.func20, Try.ntmps20
          go_wp2_with fail
          refine (unhide H1).mono ?_
          rintro e w1 ⟨rfl, rfl⟩
          clear H1
          go_wp2
          go_ret3
          exact ⟨rfl, rfl⟩
        · have HF : Hid (Num.takeText b most = ((b.drop k).take n, k + n, 0)) := by show _ = _; rw [Num.takeText, if_neg (by omega), unhide HX, if_neg (by simp), if_neg h6, if_neg h2]
          rw [unhide HF]
          rcases Nat.lt_or_ge k c with hkc | hkc
          · have hlen : ((b.drop k).take n).length = n := by simp; omega
            have hst := run_str (P := Try.prog) (src := 23) (dst := 9) (e := 5) (c - k) (hr.mid k n) Try.underlying23 Try.underlying5 Try.underlying9
            rw [hlen] at hst
            clear hlen
            go_enter Try.func20, Try.ntmps20
            go_wp2_with fail
            refine (unhide H1).mono ?_
            rintro e w1 ⟨rfl, rfl⟩
            clear H1
            go_wp2
            go_ret3
            exact ⟨ret_eq (by go_num), rfl⟩
          · obtain rfl : c = k := by omega
            obtain rfl : n = 0 := by omega
            have hst : (convert 23 9 (.slice A 0 0)).run Try.prog w = .ok (.string ⟨#[]⟩) w := run_str (P := Try.prog) (src := 23) (dst := 9) (e := 5) 0 (RdB.nil (w := w) (B := B) (A := A)) Try.underlying23 Try.underlying5 Try.underlying9
            go_enter Try.func20, Try.ntmps20
            go_wp2_with fail
            refine (unhide H1).mono ?_
            rintro e w1 ⟨rfl, rfl⟩
            clear H1
            go_wp2
            go_ret3
            exact ⟨ret_eq (by rw [List.take_zero]; rfl), rfl⟩
    all_goals
      have hx : Num.take b = _ := hx
      have HX := hide hx
      rw [hx] at H1
      clear hx h0
      go_enter Try.func20, Try.ntmps20
      go_wp2_with fail
      refine (unhide H1).mono ?_
      rintro e w1 ⟨rfl, rfl⟩
      clear H1
      go_wp2
      go_ret3
      refine ⟨ret_eq ?_, rfl⟩
      rw [Num.takeText, if_neg (by omega), unhide HX]
      rfl
set_option maxHeartbeats 1000000 in
set_option maxRecDepth 20000 in
theorem refTakeText_any (b : List UInt8) (A : Option Addr) (c B : Nat) (most : Int) (w : World) (hr : RdB w B A b) (hc : b.length ≤ c) (hbl : b.length ≤ 4611686018427387904) (hl : c ≤ 9223372036854775807) (lo : -9223372036854775808 ≤ most) (hi8 : most ≤ 9223372036854775807) :
    Calls Try.prog 21 #[.slice A b.length c, .int .i64 most] w fun e w' => e = .returned (.tuple #[.string ⟨(Num.takeText b most).1.toArray⟩, .int .i64 ((Num.takeText b most).2.1 : Int), .int .i64 (Num.takeText b most).2.2]) ∧ w = w' := by
  by_cases h0 : most < 0
  · have HF : Hid (Num.takeText b most = ([], 0, 1)) := by show _ = _; rw [Num.takeText, if_pos h0]
    rw [unhide HF]
    go_enter Try.func21, Try.ntmps21
    go_wp2
    go_ret3
    exact ⟨rfl, rfl⟩
  · have H1 := hide (refTakeUvar_n b A _ c B w hr rfl (by omega))
    have h00 : 0 ≤ most := by omega
    rcases Num.tk_cases b 0 0 with ⟨n, k, hx⟩ | hx | hx
    · have hx : Num.take b = (n, k, 0) := hx
      have ho := Num.take_only hx
      have hk := ho.2.2.1
      have hn := ho.2.2.2
      have HX := hide hx
      rw [hx] at H1
      clear hx ho h0
      by_cases h6 : most < (n : Int)
      · have HF : Hid (Num.takeText b most = ([], 0, 6)) := by show _ = _; rw [Num.takeText, if_neg (by omega), unhide HX, if_neg (by simp), if_pos h6]
        rw [unhide HF]
        go_enter Try.func21, Try.ntmps21
        go_wp2_with fail
        refine (unhide H1).mono ?_
        rintro e w1 ⟨rfl, rfl⟩
        clear H1
        go_wp2
        go_ret3
        exact ⟨rfl, rfl⟩
      · by_cases h2 : b.length < k + n
        · have HF : Hid (Num.takeText b most = ([], 0, 2)) := by show _ = _; rw [Num.takeText, if_neg (by omega), unhide HX, if_neg (by simp), if_neg h6, if_pos h2]
          rw [unhide HF]
          go_enter Try.func21, Try.ntmps21
          go_wp2_with fail
          refine (unhide H1).mono ?_
          rintro e w1 ⟨rfl, rfl⟩
          clear H1
          go_wp2
          go_ret3
          exact ⟨rfl, rfl⟩
        · have HF : Hid (Num.takeText b most = ((b.drop k).take n, k + n, 0)) := by show _ = _; rw [Num.takeText, if_neg (by omega), unhide HX, if_neg (by simp), if_neg h6, if_neg h2]
          rw [unhide HF]
          rcases Nat.lt_or_ge k c with hkc | hkc
          · have hlen : ((b.drop k).take n).length = n := by simp; omega
            have hst := run_str (P := Try.prog) (src := 23) (dst := 9) (e := 5) (c - k) (hr.mid k n) Try.underlying23 Try.underlying5 Try.underlying9
            rw [hlen] at hst
            clear hlen
            go_enter Try.func21, Try.ntmps21
            go_wp2_with fail
            refine (unhide H1).mono ?_
            rintro e w1 ⟨rfl, rfl⟩
            clear H1
            go_wp2
            go_ret3
            exact ⟨ret_eq (by go_num), rfl⟩
          · obtain rfl : c = k := by omega
            obtain rfl : n = 0 := by omega
            have hst : (convert 23 9 (.slice A 0 0)).run Try.prog w = .ok (.string ⟨#[]⟩) w := run_str (P := Try.prog) (src := 23) (dst := 9) (e := 5) 0 (RdB.nil (w := w) (B := B) (A := A)) Try.underlying23 Try.underlying5 Try.underlying9
            go_enter Try.func21, Try.ntmps21
            go_wp2_with fail
            refine (unhide H1).mono ?_
            rintro e w1 ⟨rfl, rfl⟩
            clear H1
            go_wp2
            go_ret3
            exact ⟨ret_eq (by rw [List.take_zero]; rfl), rfl⟩
    all_goals
      have hx : Num.take b = _ := hx
      have HX := hide hx
      rw [hx] at H1
      clear hx h0
      go_enter Try.func21, Try.ntmps21
      go_wp2_with fail
      refine (unhide H1).mono ?_
      rintro e w1 ⟨rfl, rfl⟩
      clear H1
      go_wp2
      go_ret3
      refine ⟨ret_eq ?_, rfl⟩
      rw [Num.takeText, if_neg (by omega), unhide HX]
      rfl
end Go.Proofs.Ytbiinlkdgankkaa
