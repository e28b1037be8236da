/- link.New, Send and the small answers of an end. -/
import Derived.Test.YtmmkjphkfhgcpaaLinkRep
namespace Go.Proofs.Ytmmkjphkfhgcpaa
set_option linter.unusedVariables false
open Go.RowKit

set_option maxHeartbeats 1000000 in
theorem new_any (ep : Int) (w : World) : Calls Try.prog 10 #[.int .i64 ep] w fun e w' => e = .returned (.pointer (some ⟨w.heap.size + 1, 0, none⟩)) ∧ w' = (w.alloc (.map #[] 0)).alloc (.cells (endCells ep (.slice none 0 0) 0 0 w.heap.size) 64) := by
  have hmm := @run_makeMap Try.prog
  go_enter Try.func10, Try.ntmps10
  go_wp2_with fail
  go_ret
  exact ⟨rfl, rfl⟩

/-- what Send leaves -/
def Sent (w : World) (p : Nat) (ep sent got : Int) (m n : Nat) (vs : List Value) (body : List UInt8) (w' : World) : Prop :=
  ∃ A1 c1 Aw cw, Blk w' p 64 (endCells ep (.slice Aw (n + 1) cw) sent got m) ∧ w'.ownsRow (p + 1) 22 1 (.slice Aw (n + 1) cw) (n + 1) (vs ++ [.slice A1 body.length c1]) ∧
    RdT w' A1 body ∧ body.length ≤ c1 ∧ c1 ≤ 9223372036854775807 ∧ Below p w w' ∧ Stays w w'

set_option maxHeartbeats 1000000 in
set_option maxRecDepth 20000 in
theorem send_ok (p : Nat) (ep sent got : Int) (Aw : Option Addr) (n cw m : Nat) (vs : List Value) (body : List UInt8) (Ab : Option Addr) (c B : Nat) (w : World)
    (hp : Blk w p 64 (endCells ep (.slice Aw n cw) sent got m)) (hown : w.ownsRow (p + 1) 22 1 (.slice Aw n cw) n vs) (hn : n < 4096) (hb : body.length ≤ 1048576) (hr : RdB w B Ab body) (hB : B ≤ w.heap.size) :
    Calls Try.prog 11 #[.pointer (some ⟨p, 0, none⟩), .slice Ab body.length c] w fun e w' => e = .returned (.int .i64 0) ∧ Sent w p ep sent got m n vs body w' := by
  obtain ⟨i0, hi, hz0, hz1, hz2⟩ := info_parts slinfo
  have hplt := hp.lt
  have fc := endAt hp
  have ff := hp.frozen 1
  have HP := hide hp
  have HO := hide hown
  have HR : Hid (RdB w.drew B Ab body) := hide hr
  have HC := hide (fun (u : World) (h : RdB u B Ab body) (h2 : B ≤ u.heap.size) => copied_any body Ab c B u h h2 (by omega))
  clear hp hown hr
  go_enter Try.func11, Try.ntmps11
  go_wp2_with fail
  go_region_law (first
    | (go_simp; go_at_call 27; refine (unhide HC _ (unhide HR) hB).mono ?_; rintro _ w2 ⟨A2, c2, rfl, hown2, hbel2, hcc2⟩
       have HP2 := hide ((unhide HP).drew.below hbel2 hplt); have HO2 := hide ((own_below (unhide HO).drew hbel2 (fun k hk => ((unhide HO).lt k hk).2)).alloc (.cells #[.slice A2 body.length c2] 22))
       have HT2 := hide (RdT.of_own hown2); have HS2 := hide (Stays.of_below hbel2 (Nat.le_refl _)); have HB2 := hide hbel2; have hcap2 := own_cap hown2; clear hown2 hbel2
       have fc2 := endAt (unhide HP2); have ff2 := (unhide HP2).frozen 1; have fc2a := endAt ((unhide HP2).alloc (.cells #[.slice A2 body.length c2] 22)))
    | (refine step_append_any _ rfl (.tmp 20) (.tmp 23) _ rfl (p + 1) 22 i0 _ 1 24 Try.underlying32 hi hz0 hz1 hz2 rfl (by omega) _ n _ (by rfl) (unhide HO2) _ _ 1 1 _ (by rfl) (RdV.one w2 _ _ _) rfl
         (by intro u hu; simp at hu; subst hu; rfl) (by simp only [maxLen]; omega) (by omega) (by have := (unhide HB2).size; simp at this ⊢; omega) ?_
       intro A3 c3 w3 hown3 hg3 hat3 hbel3 hcc3
       have HO3 := hide hown3; have HS3 := hide (Stays.grown (unhide HO2) (by decide) hg3); have HB3 := hide hbel3
       have HP3 := hide (((unhide HP2).alloc (.cells #[.slice A2 body.length c2] 22)).grown hg3 (fun h => by have := ((unhide HO2).lt _ h.symm).1; omega)); clear hown3 hg3 hat3 hbel3
       have fc3 := endAt (unhide HP3); have ff3 := (unhide HP3).frozen 1))
  all_goals go_wp2_with fail
  all_goals
    go_ret
    have hs1 := (Stays.alloc w2 (.cells #[.slice A2 body.length c2] 22)).trans (unhide HS3)
    have hs2 := hs1.trans (Stays.setCell (i := 1) (v := .slice A3 (n + 1) c3) (unhide HP3) (by decide))
    have hb1 : Below p w w2 := ((Below.refl p w).drew).trans ((unhide HB2).mono (Nat.le_of_lt hplt))
    refine ⟨rfl, A2, c2, A3, c3, (unhide HP3).set_ 1 _, ownsRow_setCell_below (unhide HO3) (Nat.lt_succ_self p) _, (unhide HT2).stays hs2, hcc2, hcap2, ?_, ((Stays.drew w).trans (unhide HS2)).trans hs2⟩
    exact ((hb1.alloc (by have := hb1.size; omega) _).trans ((unhide HB3).mono (Nat.le_succ p))).setCell (Nat.le_refl p) _

set_option maxHeartbeats 1000000 in
theorem send_long (p : Nat) (Ab : Option Addr) (k c : Nat) (w : World) (hb : 1048576 < k) (hk : k ≤ 9223372036854775807) :
    Calls Try.prog 11 #[.pointer (some ⟨p, 0, none⟩), .slice Ab k c] w fun e w' => e = .returned (.int .i64 6) ∧ w = w' := by
  go_enter Try.func11, Try.ntmps11
  go_wp2_with fail
  go_ret
  exact ⟨rfl, rfl⟩
theorem send_nil (b : Value) (w : World) :
    Calls Try.prog 11 #[.pointer none, b] w fun e w' => e = .returned (.int .i64 1) ∧ w = w' := by
  go_enter Try.func11, Try.ntmps11
  go_wp2_with fail
  go_ret
  exact ⟨rfl, rfl⟩
theorem out_nil (w : World) : Calls Try.prog 12 #[.pointer none] w fun e w' => e = .returned (.slice none 0 0) ∧ w = w' := by
  go_enter Try.func12, Try.ntmps12
  go_wp2_with fail
  go_ret
  exact ⟨rfl, rfl⟩
theorem waiting_nil (w : World) : Calls Try.prog 19 #[.pointer none] w fun e w' => e = .returned (.int .i64 0) ∧ w = w' := by
  go_enter Try.func19, Try.ntmps19
  go_wp2_with fail
  go_ret
  exact ⟨rfl, rfl⟩
theorem got_nil (w : World) : Calls Try.prog 22 #[.pointer none] w fun e w' => e = .returned (.int .i64 0) ∧ w = w' := by
  go_enter Try.func22, Try.ntmps22
  go_wp2_with fail
  go_ret
  exact ⟨rfl, rfl⟩
theorem epoch_nil (w : World) : Calls Try.prog 26 #[.pointer none] w fun e w' => e = .returned (.int .i64 0) ∧ w = w' := by
  go_enter Try.func26, Try.ntmps26
  go_wp2_with fail
  go_ret
  exact ⟨rfl, rfl⟩
set_option maxHeartbeats 1000000 in
set_option maxRecDepth 20000 in
theorem in_nil (v e s a : Int) (A : Option Addr) (n c : Nat) (w : World) : Calls Try.prog 14 #[.pointer none, .agg #[.int .i64 v, .int .i64 e, .int .i64 s, .int .i64 a, .slice A n c]] w fun e w' => e = .returned (.tuple #[.slice none 0 0, .int .i64 1]) ∧ Below w.heap.size w w' := by
  go_enter Try.func14, Try.ntmps14
  go_wp2_with fail
  go_ret2
  exact ⟨rfl, (Below.refl _ _).alloc (Nat.le_refl _) _⟩
end Go.Proofs.Ytmmkjphkfhgcpaa
