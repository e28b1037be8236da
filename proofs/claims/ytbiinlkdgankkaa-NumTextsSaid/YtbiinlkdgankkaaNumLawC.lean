/- The walks of NumTexts and NumCuts. -/
import Derived.Test.YtbiinlkdgankkaaNumText
import Derived.Test.YtbiinlkdgankkaaFrame
namespace Go.Proofs.Ytbiinlkdgankkaa
set_option linter.unusedVariables false
open Go.RowKit

set_option maxHeartbeats 1000000 in
set_option maxRecDepth 20000 in
theorem numTexts_walk (s : ByteArray) (b : List UInt8) (B : Option Addr) (cb : Nat) (most : Int) (w : World) (hs : s.size ≤ 140737488351232) (hb : RdB w w.heap.size B b) (hl : b.length ≤ cb) (hc : cb ≤ 140737488351232) (lo : -9223372036854775808 ≤ most) (hi8 : most ≤ 9223372036854775807) :
    Calls Try.prog 7 #[.string s, .slice B b.length cb, .int .i64 most] w fun e w' => e = .returned (.bool true) ∧ Below w.heap.size w w' := by
  have H1 := hide (text_any s most w hs lo hi8)
  have H2 := hide (fun w => refText_any s most w hs lo hi8)
  have H3 := hide (fun w hb => takeText_any b B cb (World.heap w).size most w hb hl (by omega) (by omega) lo hi8)
  have H4 := hide (fun w hb => refTakeText_any b B cb (World.heap w).size most w hb hl (by omega) (by omega) lo hi8)
  clear lo hi8 hs
  generalize Num.text s.data.toList most = r at H1 H2
  generalize Num.takeText b most = q at H3 H4
  obtain ⟨l, er⟩ := r
  obtain ⟨t, m, er2⟩ := q
  go_enter Try.func7, Try.ntmps7
  go_wp2_with fail
  refine (unhide H1).mono ?_
  rintro e w1 ⟨A1, c1, rfl, hown1, hbel1, hcc1⟩
  have HR1 := hide (RdB.of_own hown1)
  have HB1 := hide hbel1
  have HS1 := hide hbel1.size
  have Hb1 := hide ((hb.below hbel1).more hbel1.size)
  clear hown1 hbel1 hcc1 hb
  go_wp2_with fail
  refine ((unhide H2) w1).mono ?_
  rintro e w2 ⟨A2, c2, rfl, hown2, hbel2, hcc2⟩
  have HR1 := hide (((unhide HR1).below hbel2).more hbel2.size)
  have HR2 := hide (RdB.of_own hown2)
  have HB2 := hide ((unhide HB1).trans (hbel2.mono (unhide HS1)))
  have HS2 := hide (Nat.le_trans (unhide HS1) hbel2.size)
  have Hb2 := hide (((unhide Hb1).below hbel2).more hbel2.size)
  clear hown2 hbel2 hcc2
  go_wp2_with fail
  refine ((unhide H3) w2 (unhide Hb2)).mono ?_
  rintro e w3 ⟨rfl, rfl⟩
  go_wp2_with fail
  refine ((unhide H4) w2 (unhide Hb2)).mono ?_
  rintro e w3 ⟨rfl, rfl⟩
  go_wp2_with fail
  refine (awake_any _).mono ?_
  rintro e w3 ⟨rfl, hb3⟩
  have HS := hide (same_n l l A1 A2 _ _ c1 c2 _ _ w3 ((unhide HR1).below hb3) ((unhide HR2).below hb3) rfl rfl)
  have HB := hide ((unhide HB2).trans (hb3.mono (unhide HS2)))
  clear hb3
  go_wp2_with fail
  refine (unhide HS).mono ?_
  rintro e w4 ⟨rfl, rfl⟩
  go_wp2_with fail
  go_ret
  exact ⟨ret_eq (by simp), unhide HB⟩

theorem Num.takeText_cut (s : List UInt8) (k : Nat) (hs : s.length < 18446744073709551616) (hk : k < (Num.tx s).length) : Num.takeText ((Num.tx s).take k) (s.length : Int) = ([], 0, 2) := by
  unfold Num.tx at hk ⊢
  rw [List.length_append] at hk
  rw [Num.takeText, if_neg (by omega)]
  rcases Nat.lt_or_ge k (Num.uv s.length).length with h | h
  · rw [List.take_append_of_le_length (by omega), Num.take_cut hs h]
    rfl
  · have e : (Num.uv s.length ++ s).take k = Num.uv s.length ++ s.take (k - (Num.uv s.length).length) := by
      rw [List.take_append, List.take_of_length_le h]
    rw [e, Num.take_uv hs, if_neg (by simp), if_neg (by simp), if_pos (by simp; omega)]

theorem Num.cut_at (a : Int) (n : Nat) (h : 0 < n) (h2 : n < 9223372036854775808) : ∃ i : Nat, i < n ∧ wrap64 ((IntKind.u64.wrap a).tmod (n : Int)) = (i : Int) := by
  have h1 : 0 ≤ IntKind.u64.wrap a := by rw [IntKind.wrap_u64]; exact Int.emod_nonneg _ (by decide)
  have h3 := Int.tmod_lt_of_pos (IntKind.u64.wrap a) (show (0 : Int) < (n : Int) by omega)
  have h4 := Int.tmod_nonneg (n : Int) h1
  generalize (IntKind.u64.wrap a).tmod (n : Int) = r at h3 h4
  refine ⟨r.toNat, by omega, ?_⟩
  rw [IntWalk.wrap64_in r ⟨by omega, by omega⟩]
  omega

set_option maxHeartbeats 1000000 in
set_option maxRecDepth 20000 in
theorem numCuts_walk (n : BitVec 64) (s : ByteArray) (at_ : Int) (w : World) (hs : s.size ≤ 140737488351232) (lo : -9223372036854775808 ≤ at_) (hi8 : at_ ≤ 9223372036854775807) :
    Calls Try.prog 8 #[.int .u64 (n.toNat : Int), .string s, .int .i64 at_] w fun e w' => e = .returned (.bool true) ∧ Below w.heap.size w w' := by
  have HN : Hid (n.toNat < 18446744073709551616) := n.isLt
  have H1 := hide (uvar_any n.toNat w (unhide HN))
  have H2 := hide (fun w => text_any s s.size w hs (by omega) (by omega))
  have e2 : Num.text s.data.toList (s.size : Int) = (Num.tx s.data.toList, 0) := Num.text_ok (by omega) (by rw [size_list]; omega)
  rw [e2] at H2
  clear e2
  go_enter Try.func8, Try.ntmps8
  go_wp2_with fail
  refine (unhide H1).mono ?_
  rintro e w1 ⟨A1, c1, rfl, hown1, hbel1, hcc1⟩
  have HR1 := hide (RdB.of_own hown1)
  have HB1 := hide hbel1
  have HS1 := hide hbel1.size
  have hl1 := Num.uv_ne n.toNat
  have hl2 := Num.uv_len64 (unhide HN)
  have HC := hide (fun j (h : j < (Num.uv n.toNat).length) => Num.take_cut (unhide HN) h)
  clear hown1 hbel1
  generalize Num.uv n.toNat = x at *
  go_wp2_with fail
  refine ((unhide H2) w1).mono ?_
  rintro e w2 ⟨A2, c2, rfl, hown2, hbel2, hcc2⟩
  have HR2 := hide (RdB.of_own hown2)
  have HB2 := hide ((unhide HB1).trans (hbel2.mono (unhide HS1)))
  have Hr1 := hide (((unhide HR1).below hbel2).more hbel2.size)
  have HK := hide (fun k (h : k < (Num.tx s.data.toList).length) => Num.takeText_cut s.data.toList k (by rw [size_list]; omega) h)
  have hy : 0 < (Num.tx s.data.toList).length ∧ (Num.tx s.data.toList).length ≤ 140737488351242 := by
    have h1 := Num.uv_len64 (n := s.size) (by omega)
    have h2 := Num.uv_ne s.size
    unfold Num.tx
    rw [List.length_append, size_list]
    omega
  obtain ⟨hy1, hy2⟩ := hy
  rw [size_list] at HK
  have HCap := hide (own_cap hown2)
  clear hown2 hbel2 HR1
  generalize Num.tx s.data.toList = y at *
  have g1 : ((x.length : Int) == 0) = false := beq_eq_false_iff_ne.2 (by omega)
  have g2 : ((y.length : Int) == 0) = false := beq_eq_false_iff_ne.2 (by omega)
  go_wp2_with fail
  go_quiet (fail)
  obtain ⟨i, hi, ei⟩ := Num.cut_at at_ x.length hl1 (by omega)
  obtain ⟨k, hk, ek⟩ := Num.cut_at at_ y.length hy1 (by omega)
  simp only [ei, ek]
  clear ei ek
  have Hi := hide (takeUvar_n (x.take i) A1 i c1 _ (w2.drewN nq) (((unhide Hr1).drewN nq).take i) (by simp; omega) (by omega))
  have Hk := hide (takeText_any (y.take k) A2 c2 _ s.size (w2.drewN nq) (((unhide HR2).drewN nq).take k) (by simp; omega) (by simp; omega) (unhide HCap) (by omega) (by omega))
  rw [unhide HC i hi] at Hi
  rw [unhide HK k hk] at Hk
  have hyk : (y.take k).length = k := by simp; omega
  rw [hyk] at Hk
  clear hyk
  go_wp2_with fail
  refine (unhide Hi).mono ?_
  rintro e w3 ⟨rfl, rfl⟩
  go_wp2_with fail
  refine (unhide Hk).mono ?_
  rintro e w3 ⟨rfl, rfl⟩
  go_wp2_with fail
  refine (awake_any _).mono ?_
  rintro e w3 ⟨rfl, hb3⟩
  go_wp2_with fail
  go_ret
  exact ⟨rfl, (below_drewN' (unhide HB2) nq).trans (hb3.mono (unhide HB2).size)⟩
end Go.Proofs.Ytbiinlkdgankkaa
