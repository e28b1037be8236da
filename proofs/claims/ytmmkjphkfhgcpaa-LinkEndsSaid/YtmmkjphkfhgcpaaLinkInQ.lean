/- link.In of any end, of a frame that is its incarnation's. -/
import Derived.Test.YtmmkjphkfhgcpaaLinkIn
import Derived.Deep.Cut
import Derived.Deep.CutRange
namespace Go.Proofs.Ytmmkjphkfhgcpaa
set_option linter.unusedVariables false
open Go.RowKit

theorem upd_map (M : Int → Option Body) (a : Int) (x : Body) : (fun b => (upd M a (some x) b).map bv) = upd (fun b => (M b).map bv) a (some (bv x)) := by
  funext b
  unfold upd
  split <;> rfl
theorem upd_map_none (M : Int → Option Body) (a : Int) : upd (fun b => (M b).map bv) a none = fun b => (upd M a none b).map bv := by
  funext b
  unfold upd
  split <;> rfl
def lenV : Value → Nat
  | .slice _ n _ => n
  | _ => 0
/-- the frame that comes -/
def frm (v ep s a : Int) (A : Option Addr) (n c : Nat) : Array Value := #[.int .i64 v, .int .i64 ep, .int .i64 s, .int .i64 a, .slice A n c]
/-- what an acknowledgement makes of those that wait -/
def Cut (Aw : Option Addr) (nw cw : Nat) (sent a : Int) (wv2 : Value) (sent2 : Int) : Prop :=
  (a ≤ sent ∧ wv2 = .slice Aw nw cw ∧ sent2 = sent) ∨ (sent < a ∧ sent2 = a ∧ ∃ g off d, Aw = some ⟨g, off, none⟩ ∧ a - sent = (d : Nat) ∧ 0 < d ∧ d ≤ nw ∧ ((d < cw ∧ wv2 = .slice (some ⟨g, off + d, none⟩) (nw - d) (cw - d)) ∨ (cw = d ∧ wv2 = .slice (some ⟨g, off, none⟩) 0 0)))
/-- behind the acknowledgement -/
def Acked (w : World) (p : Nat) (ep sent2 got : Int) (wv2 : Value) (m : Nat) (F : Array Value) (u : World) : Prop :=
  Blk u p 64 (endCells ep wv2 sent2 got m) ∧ Blk u w.heap.size 31 F ∧ Only (fun k => k = p) w u
/-- behind the look at what is kept -/
def Looked (w : World) (p : Nat) (ep sent2 got : Int) (wv2 : Value) (m n : Nat) (M : Int → Option Body) (s : Int) (b : List UInt8) (u : World) : Prop :=
  ∃ (M1 : Int → Option Body) (n1 : Nat), n1 ≤ n + 1 ∧ Blk u p 64 (endCells ep wv2 sent2 got m) ∧ Kpl u m n1 M1 ∧ Only (fun k => k = p ∨ k = m) w u ∧ By w u ∧
    (((M s).isSome = true ∧ M1 = M) ∨ (M s = none ∧ ∃ x : Body, x.1 = b ∧ Okb u x ∧ (∀ ad, x.2.1 = some ad → w.heap.size ≤ ad.block) ∧ M1 = upd M s (some x)))
/-- what In answers -/
def InQ (w : World) (p : Nat) (ep sent2 got : Int) (wv2 : Value) (m n : Nat) (M : Int → Option Body) (s : Int) (b : List UInt8) (e : Ending) (w' : World) : Prop :=
  ∃ (j : Nat) (Ao : Option Addr) (co : Nat) (q : Bodies) (er : Int) (M' : Int → Option Body) (n' : Nat), e = .returned (.tuple #[.slice Ao j co, .int .i64 er]) ∧ q.length = j ∧ w'.ownsRow w.heap.size 22 1 (.slice Ao j co) j (rowOf q) ∧
    Blk w' p 64 (endCells ep wv2 sent2 (got + j) m) ∧ Kpl w' m n' M' ∧ n' ≤ n + 1 ∧ Only (fun k => k = p ∨ k = m) w w' ∧ By w w' ∧
    ((s ≤ got ∧ er = 0 ∧ j = 0 ∧ M' = M) ∨ (got + 16 < s ∧ er = 9 ∧ j = 0 ∧ M' = M) ∨
      (got < s ∧ s ≤ got + 16 ∧ er = 0 ∧ ∃ M1 : Int → Option Body, (((M s).isSome = true ∧ M1 = M) ∨ (M s = none ∧ ∃ x : Body, x.1 = b ∧ Okb w' x ∧ (∀ ad, x.2.1 = some ad → w.heap.size ≤ ad.block) ∧ M1 = upd M s (some x))) ∧
        M' = (fun c => if got < c ∧ c ≤ got + j then none else M1 c) ∧ (∀ (i : Nat) (x : Body), q[i]? = some x → M1 (got + 1 + i) = some x) ∧ M1 (got + 1 + j) = none))

set_option maxHeartbeats 8000000 in
set_option maxRecDepth 20000 in
theorem in_walk (p : Nat) (ep sent got : Int) (Aw : Option Addr) (nw cw m k : Nat) (M : Int → Option Body) (v s a : Int) (A : Option Addr) (b : List UInt8) (c : Nat) (wv2 : Value) (sent2 : Int) (w : World) (hp : Blk w p 64 (endCells ep (.slice Aw nw cw) sent got m))
    (hm : Kpl w m k M) (hk : k ≤ 1099511627776) (hr : ∀ u, Only (fun k => k = p) w u → RdB u w.heap.size A b) (hb : b.length ≤ 1048576)
    (h0 : 0 ≤ sent) (h1 : sent ≤ 1099511627776) (h2 : 0 ≤ got) (h3 : got ≤ 1099511627776) (hnw : nw ≤ 4096) (hnc : nw ≤ cw) (hcw : cw ≤ 9223372036854775807) (ha0 : 0 ≤ a) (hs0 : 0 ≤ s) (ha : a ≤ 9223372036854775807) (hs : s ≤ 9223372036854775807)
    (hw : M (got + 17) = none)
    (W : Int) (hW : (if 16 < (nw : Int) then 16 else (nw : Int)) = W) (hlt : a - sent ≤ W) (hcut : Cut Aw nw cw sent a wv2 sent2) :
    Calls Try.prog 14 #[.pointer (some ⟨p, 0, none⟩), .agg (frm v ep s a A b.length c)] w (InQ w p ep sent2 got wv2 m k M s b) := by
  have HM0 := hide ((Mem.start w).new (t := 31) (cs := #[.int .i64 v, .int .i64 ep, .int .i64 s, .int .i64 a, .slice A b.length c]) w.heap.size rfl)
  have fc := endAt (hp.alloc (.cells #[.int .i64 v, .int .i64 ep, .int .i64 s, .int .i64 a, .slice A b.length c] 31))
  have ff1 := (hp.alloc (.cells #[.int .i64 v, .int .i64 ep, .int .i64 s, .int .i64 a, .slice A b.length c] 31)).frozen 1
  have ff2 := (hp.alloc (.cells #[.int .i64 v, .int .i64 ep, .int .i64 s, .int .i64 a, .slice A b.length c] 31)).frozen 2
  have fd := Lnk.cellsAt (unhide HM0).blk0
  have HPA := hide (hp.alloc (.cells #[.int .i64 v, .int .i64 ep, .int .i64 s, .int .i64 a, .slice A b.length c] 31))
  have hpl := hp.lt
  have hpl2 : p ≠ w.heap.size := Nat.ne_of_lt hpl
  have HMM := hide hm
  have HRB := hide hr
  have HCUT := hide hcut
  have HNONE := hide hw
  have f1 : decide (a < 0) = false := decide_eq_false (by omega)
  have f2 : decide (s < 0) = false := decide_eq_false (by omega)
  have hw1 : IntKind.i64.wrap (a - sent) = a - sent := by rw [IntKind.wrap_i64]; omega
  have hw2 : IntKind.i64.wrap (s - got) = s - got := by rw [IntKind.wrap_i64]; omega
  have f3 : decide (W < a - sent) = false := decide_eq_false (by omega)
  have HX := hide hlt
  have HPW := hide hp
  clear hlt hcut hp hm hr hw
  unfold frm
  go_enter Try.func14, Try.ntmps14
  go_wp2_with fail
  go_quiet (fail)
  go_wp2_with fail
  go_quiet (fail)
  go_wp2_with fail
  go_quiet (fail)
  go_upto_if 50 with (fail)
  go_cut [] from 44 (fun u => Acked w p ep sent2 got wv2 m #[.int .i64 v, .int .i64 ep, .int .i64 s, .int .i64 a, .slice A b.length c] u)
  case first =>
    rcases unhide HCUT with ⟨c1, rfl, rfl⟩ | ⟨c1, rfl, g, off, d, rfl, cd, cd0, cdn, hcd⟩
    · have f4 : decide (sent2 < a) = false := decide_eq_false (by omega)
      clear HCUT
      go_wp2_with fail
      go_meet
      case rel => exact ⟨unhide HPA, (unhide HM0).blk0, by (repeat refine Only.drewN ?_ _); exact Only.alloc (Only.refl _ w) _⟩
    · have f4 : decide (sent < sent2) = true := decide_eq_true c1
      have hsl : IntKind.i64.wrap (sent2 - sent) = (d : Int) := by rw [hw1, cd]
      have f3' : decide (W < (d : Int)) = false := by rw [← cd]; exact f3
      clear hw1 f3 cd HCUT
      rcases hcd with ⟨hdc, rfl⟩ | ⟨rfl, rfl⟩
      · have hne : ¬ (cw = d) := by omega
        go_wp2_with fail
        go_region_law fail
        all_goals go_wp2_with fail
        all_goals
          go_meet
          case rel => exact ⟨Blk.set_ (Blk.set_ (Blk.drewN (unhide HPA) _) 1 _) 2 _, Blk.far (Blk.far (Blk.drewN (unhide HM0).blk0 _) (Ne.symm hpl2) _) (Ne.symm hpl2) _, by refine Only.setCell (S := fun k => k = p) (Only.setCell (S := fun k => k = p) ?_ rfl _) rfl _; (repeat refine Only.drewN ?_ _); exact Only.alloc (Only.refl _ w) _⟩
      · obtain rfl : nw = cw := by omega
        have hne : (nw = nw) = True := by simp
        go_wp2_with fail
        go_region_law fail
        all_goals go_wp2_with fail
        all_goals
          go_meet
          case rel => exact ⟨Blk.set_ (Blk.set_ (Blk.drewN (unhide HPA) _) 1 _) 2 _, Blk.far (Blk.far (Blk.drewN (unhide HM0).blk0 _) (Ne.symm hpl2) _) (Ne.symm hpl2) _, by refine Only.setCell (S := fun k => k = p) (Only.setCell (S := fun k => k = p) ?_ rfl _) rfl _; (repeat refine Only.drewN ?_ _); exact Only.alloc (Only.refl _ w) _⟩
  case rest =>
    clear fc ff1 ff2 fd HCUT HPA f1 f2 f3 hW hw1 HX
    obtain ⟨hpc, hfc, hoc⟩ := hcut
    have HP2 := hide hpc; have HF2 := hide hfc; have HO2 := hide hoc
    have hby2 : By w wc := By.of_only hoc fun k _ hk cs fz e => by
      subst hk
      have h := unhide HPW
      unfold Blk at h
      rw [e] at h
      injection h with h
      injection h with _ h _
      exact absurd h (by decide)
    have HBY2 := hide hby2
    have fc := endAt hpc
    have ff := hpc.frozen 3
    have fd := Lnk.cellsAt hfc
    have hmp : m ≠ p := fun e => by
      obtain ⟨es, cl, hm⟩ := Kp.blk (unhide HMM)
      have h := unhide HPW
      unfold Blk at h
      rw [← e, hm] at h
      injection h with h
      cases h
    have hkc : Kpl wc m k M := Kp.only (unhide HMM) hoc hmp
    have HK2 := hide hkc
    have hlook := fun n1 n2 n3 : Nat => kpl_look (w := ((wc.drewN n1).drewN n2).drewN n3) hkc (a := s) (by omega) (by omega)
    clear hpc hfc hoc hby2 hkc
    by_cases hso : s ≤ got
    · go_wp2_with fail
      go_quiet (fail)
      go_wp2_with fail
      go_ret2
      exact ⟨0, none, 0, [], 0, M, k, rfl, rfl, own_nil _ _ _ _, by simpa using (unhide HP2).drewN _, Kp.drewN (unhide HK2) _, by omega, ((unhide HO2).drewN _).mono fun k _ h => .inl h, unhide HBY2, .inl ⟨hso, rfl, rfl, rfl⟩⟩
    · by_cases hfar : 16 < s - got
      · go_wp2_with fail
        go_quiet (fail)
        go_wp2_with fail
        go_quiet (fail)
        go_wp2_with fail
        go_ret2
        exact ⟨0, none, 0, [], 9, M, k, rfl, rfl, own_nil _ _ _ _, by simpa using ((unhide HP2).drewN _).drewN _, Kp.drewN (Kp.drewN (unhide HK2) _) _, by omega, (((unhide HO2).drewN _).drewN _).mono fun k _ h => .inl h, unhide HBY2, .inr (.inl ⟨by omega, rfl, rfl, rfl⟩)⟩
      · go_wp2_with fail
        go_quiet (fail)
        go_wp2_with fail
        go_quiet (fail)
        go_wp2_with fail
        refine wp_region_quiet_lit (by kernel_rfl) (by kernel_rfl) ?_
        repeat (first
          | (go_big_quiet_want; refine quiet_lookup rfl rfl rfl (fun u hu => by obtain ⟨n, rfl⟩ := hu; exact hlook _ _ _) ?_; simp only [Act.put, List.setIfInBounds_toArray, List.set_cons_succ, List.set_cons_zero]; go_big_quiet_on)
          | go_big_quiet_step (fail))
        refine wpQuiet_nil ?_
        rintro _ ⟨nq, rfl⟩
        have hmpn : ∀ (u : World), Only (fun k => k = p ∨ k = m) wc u → Only (fun k => k = p ∨ k = m) w u := fun u h => ((unhide HO2).mono fun k _ h => .inl h).trans h
        go_upto_if 97 with (fail)
        go_cut [6, 7] from 86 (fun _ _ u => Looked w p ep sent2 got wv2 m k M s b u)
        case first =>
          rcases hMs : M s with _ | x0
          · have HC := hide (fun (u : World) (h : RdB u w.heap.size A b) (h2 : w.heap.size ≤ u.heap.size) => copied_any b A c w.heap.size u h h2 (by omega))
            have hrc : ∀ n1 : Nat, RdB (wc.drewN n1) w.heap.size A b := fun _ => unhide HRB wc (unhide HO2)
            have hsz := (unhide HO2).size
            go_wp2_with fail
            go_region_law (first
              | (go_simp; go_at_call 27; refine (unhide HC _ (hrc _) hsz).mono ?_; rintro _ w2 ⟨A2, c2, rfl, hown2, hbel2, hcc2⟩
                 have HP3 := hide (Blk.below (w' := w2) ((unhide HP2).drewN _) hbel2 (unhide HP2).lt); have HF3 := hide (Blk.below (w' := w2) ((unhide HF2).drewN _) hbel2 (unhide HF2).lt)
                 have HK3 := hide (Kp.only (w' := w2) (Kp.drewN (unhide HK2) _) (Only.of_new (S := fun _ => False) hbel2) (fun h => h))
                 have HT3 := hide (RdT.of_own hown2); have hcap2 := own_cap hown2; have HA3 := hide (fun ad (e : A2 = some ad) => (hown2.lt ad.block (by rw [e]; rfl)).1); have HB3 := hide hbel2; clear hown2 hbel2
                 have fc3 := endAt (unhide HP3); have fd3 := Lnk.cellsAt (unhide HF3)
                 obtain ⟨w3, hrun3, hk3, hg3, hs3⟩ := Kp.store (unhide HK3) Try.underlying3 Try.underlying62 (by simp only [maxLen]; omega) (a := s) (by simp [Lit.wf, IntKind.min, IntKind.max, IntKind.signed, IntKind.bits]; omega) (.slice A2 b.length c2)
                 have HK4 := hide hk3; have HG4 := hide hg3; clear hk3 hg3))
            all_goals go_wp2_with fail
            all_goals
              go_meet
              case rel =>
                have og : Only (fun k => k = m) w2 w3 := Only.of_grown (unhide HG4) (fun k hk => by injection hk with hk; exact hk.symm)
                have hby3 : By w2 w3 := By.of_only og fun k _ hk cs fz e => by
                  subst hk
                  obtain ⟨es, cl, hm⟩ := Kp.blk (unhide HK3)
                  rw [e] at hm
                  injection hm with hm
                  cases hm
                refine ⟨upd M s (some (b, A2, c2)), k + 1, Nat.le_refl _, (unhide HP3).grown (unhide HG4) (fun e => by injection e with e; exact hmp e.symm), ?_, hmpn _ (((Only.refl _ wc).drewN _).trans ((Only.of_new (unhide HB3)).trans (og.mono fun k _ h => .inr h))),
                  (unhide HBY2).trans ((By.of_new (w := wc.drewN _) (unhide HB3)).trans hby3), .inr ⟨hMs, (b, A2, c2), rfl, ⟨(unhide HT3).by hby3, hcc2, hb⟩, fun ad e => Nat.le_trans hsz (unhide HA3 ad e), rfl⟩⟩
                have e := upd_map M s (b, A2, c2)
                unfold Kpl
                rw [e]
                exact unhide HK4
          · go_wp2_with fail
            go_meet
            case rel => exact ⟨M, k, by omega, ((unhide HP2).drewN _), Kp.drewN (unhide HK2) _, (unhide HO2).drewN _ |>.mono fun k _ h => .inl h, unhide HBY2, .inl ⟨by rw [hMs]; rfl, rfl⟩⟩
        case rest =>
          clear fc ff fd hlook hmpn HF2 HBY2 HK2 HP2
          obtain ⟨M1, n1, hn1, hp1, hk1, ho1, hby1, hM1⟩ := hcut
          have hM1' : Hid (M1 (got + 17) = none) := hide (by
            rcases hM1 with ⟨_, rfl⟩ | ⟨_, x, _, _, _, rfl⟩
            · exact unhide HNONE
            · rw [upd_other M _ (by omega)]
              exact unhide HNONE)
          have HM1 := hide hM1; have HP1 := hide hp1; have HK1 := hide hk1; have HO1 := hide ho1; have HBY1 := hide hby1
          clear hM1 hp1 hk1 ho1 hby1 HO2
          obtain ⟨i0, hi, hz0, hz1, hz2⟩ := info_parts slinfo
          have hml := Kp.lt (unhide HMM)
          go_wp2_with fail
          go_loopw [8] (fun o wr => ∃ (j : Nat) (Ao : Option Addr) (co : Nat) (q : Bodies), j ≤ 16 ∧ o = .slice Ao j co ∧ q.length = j ∧ wr.ownsRow w.heap.size 22 1 (.slice Ao j co) j (rowOf q) ∧
            Blk wr p 64 (endCells ep wv2 sent2 (got + j) m) ∧ Kpl wr m n1 (fun c => if got < c ∧ c ≤ got + j then none else M1 c) ∧ Only (fun k => k = p ∨ k = m) w wr ∧ By wc wr ∧ (∀ (i : Nat) (x : Body), q[i]? = some x → M1 (got + 1 + i) = some x)) (fun o _ => 17 - lenV o)
          case atStart => exact ⟨0, none, 0, [], by omega, rfl, rfl, own_nil _ _ _ _, by simpa using unhide HP1, by
            have e : (fun c => if got < c ∧ c ≤ got + ((0 : Nat) : Int) then none else M1 c) = M1 := by
              funext c
              rw [if_neg (by omega)]
            rw [e]; exact unhide HK1, unhide HO1, By.refl _, fun i x h => by simp at h⟩
          case round =>
            obtain ⟨j, Ao, co, q, hj16, rfl, hql, hown, hpr, hkr, hor, hbyr, hq⟩ := hrel
            have hgj : (if got < got + (j : Int) + 1 ∧ got + (j : Int) + 1 ≤ got + j then none else M1 (got + j + 1)) = M1 (got + j + 1) := if_neg (by omega)
            have hlook := fun n1 : Nat => kpl_look (w := wr.drewN n1) hkr (a := got + j + 1) (by omega) (by omega)
            rw [hgj] at hlook
            have hw1 : IntKind.i64.wrap (got + j + 1) = got + j + 1 := by rw [IntKind.wrap_i64]; omega
            have fc := endAt hpr
            have ff := hpr.frozen 3
            have HRow := hide hown; have HPr := hide hpr; have HKr := hide hkr; have HOr := hide hor; have HBr := hide hbyr; have HQr := hide hq
            clear hown hpr hkr hor hbyr hq hgj
            rcases hMj : M1 (got + j + 1) with _ | x
            · rw [hMj] at hlook
              go_wp2_with fail
              go_quiet (fail)
              go_wp2_with fail
              go_ret2
              refine ⟨j, Ao, co, q, 0, _, n1, rfl, hql, own_drewN (unhide HRow) _, Blk.drewN (unhide HPr) _, Kp.drewN (unhide HKr) _, hn1, (unhide HOr).drewN _, (unhide HBY1).trans (unhide HBr), .inr (.inr ⟨hso, by omega, rfl, M1, ?_, rfl, unhide HQr, by rw [← hMj]; congr 1; omega⟩)⟩
              rcases unhide HM1 with h | ⟨h1, x, h2, h3, h4⟩
              · exact .inl h
              · exact .inr ⟨h1, x, h2, h3.by (unhide HBr), h4⟩
            · have hj : j < 16 := by
                rcases Nat.lt_or_ge j 16 with h | h
                · exact h
                · obtain rfl : j = 16 := by omega
                  have := unhide hM1'
                  rw [show got + 17 = got + ((16 : Nat) : Int) + 1 by omega, hMj] at this
                  cases this
              rw [hMj] at hlook
              simp only [Option.map_some, Option.getD_some, Option.isSome_some, bv] at hlook
              go_wp2_with fail
              go_quiet (fail)
              have hwf : (Lit.int .i64 (got + j + 1)).wf = true := by simp [Lit.wf, IntKind.min, IntKind.max, IntKind.signed, IntKind.bits]; omega
              go_wp2_with fail
              go_region_law (refine step_delete_kp rfl (.tmp 126) (.tmp 131) rfl Try.underlying3 Try.underlying62 (Kp.drewN (unhide HKr) _) (got + j + 1) hwf (by rfl) (by rfl) ?_
                             intro w3 hk3 hg3 hs3
                             have HK3 := hide hk3; have HG3 := hide hg3
                             have hp3 := ((unhide HPr).drewN _).grown hg3 (fun e => by injection e with e; exact hmp e.symm)
                             have HP3 := hide hp3
                             have fc3 := endAt hp3; have ff3 := hp3.frozen 3
                             have HR3 := hide (own_only (S := fun k => k = m) (own_drewN (unhide HRow) _) (Only.of_grown hg3 (fun k hk => by injection hk with hk; exact hk.symm)) (fun k hk e => by have := ((unhide HRow).lt k hk).1; omega))
                             clear hk3 hg3 hp3 hs3)
              all_goals go_wp2_with (refine wpList_append_any _ rfl (.tmp 139) (.tmp 141) _ rfl w.heap.size 22 i0 _ 1 24 Try.underlying32 hi hz0 hz1 hz2 rfl (by omega) _ j _ (by rfl) (own_only (S := fun k => k = p) (unhide HR3) (((Only.refl (fun k => k = p) _).setCell (p := ⟨p, 3, none⟩) rfl _).alloc _) (fun k hk e => by have := ((unhide HR3).lt k hk).1; omega)) (w3.heap.size + 1) (some ⟨w3.heap.size, 0, none⟩) 1 1 [.slice x.2.1 x.1.length x.2.2] (by rfl) (by have h := RdV.one (w3.setCell ⟨p, 3, none⟩ (.int .i64 (got + j + 1))) (.slice x.2.1 x.1.length x.2.2) 22 (0, 0); simpa using h) rfl (by intro u hu; simp at hu; subst hu; rfl) (by simp only [maxLen]; omega) (by omega) (by have h1 := (unhide HOr).size; have h2 := (unhide HG3).size; simp at h2 ⊢; omega) ?_; intro A4 c4 w4 hown4 hg4 hat4 hbel4 hcc4; have HO4 := hide hown4; have HG4 := hide hg4; have HB4 := hide hbel4; clear hown4 hg4 hat4 hbel4)
              all_goals
                have hol := fun k hk => ((unhide HR3).lt k hk).1
                have hb4 : Blk w4 p 64 (endCells ep wv2 sent2 (got + j + 1) m) := (((unhide HP3).set_ 3 (.int .i64 (got + j + 1))).alloc _).grown (unhide HG4) (fun e => by have := hol p e.symm; omega)
                have o34 : Only (fun k => k = p ∨ w.heap.size ≤ k) w3 w4 := (((Only.refl (fun k => k = p ∨ w.heap.size ≤ k) w3).setCell (p := ⟨p, 3, none⟩) (.inl rfl) (.int .i64 (got + j + 1))).alloc (.cells #[.slice x.2.1 x.1.length x.2.2] 22)).trans (Only.of_grown (unhide HG4) fun k hk => .inr (hol k hk))
                have o3 : Only (fun k => k = m) wr w3 := ((Only.refl _ wr).drewN _).trans (Only.of_grown (unhide HG3) (fun k hk => by injection hk with hk; exact hk.symm))
                have ho4 : Only (fun k => k = p ∨ k = m) w w4 := (((unhide HOr).mono (T := fun k => k = p ∨ k = m ∨ w.heap.size ≤ k) (fun k _ h => h.elim .inl fun h => .inr (.inl h))).trans ((o3.mono fun k _ h => .inr (.inl h)).trans (o34.mono fun k _ h => h.elim .inl fun h => .inr (.inr h)))).mono
                  (fun k hk h => by rcases h with h | h | h; exact .inl h; exact .inr h; omega)
                have hby3 : By wr w3 := By.of_only o3 fun k _ hk cs fz e => by
                  subst hk
                  obtain ⟨es, cl, hm⟩ := Kp.blk (unhide HKr)
                  rw [e] at hm
                  injection hm with hm
                  cases hm
                have hrow3 := own_only (S := fun k => k = p) (unhide HR3) (((Only.refl (fun k => k = p) w3).setCell (p := ⟨p, 3, none⟩) rfl (.int .i64 (got + j + 1))).alloc (.cells #[.slice x.2.1 x.1.length x.2.2] 22)) (fun k hk e => by have := hol k hk; omega)
                have hby4 : By w3 w4 := (By.of_stays (Stays.setCell (i := 3) (v := .int .i64 (got + j + 1)) (unhide HP3) (by decide))).trans ((By.of_stays (Stays.alloc _ (.cells #[.slice x.2.1 x.1.length x.2.2] 22))).trans (By.of_stays (Stays.grown hrow3 (by decide) (unhide HG4))))
                have hkk : Kpl w4 m n1 (fun c => if got < c ∧ c ≤ got + ((j + 1 : Nat) : Int) then none else M1 c) := by
                  have h := Kp.only (unhide HK3) o34 (fun h => by rcases h with h | h; exact hmp h; omega)
                  rw [upd_map_none (fun c => if got < c ∧ c ≤ got + (j : Int) then none else M1 c)] at h
                  have e : (fun c => if got < c ∧ c ≤ got + ((j + 1 : Nat) : Int) then none else M1 c) = upd (fun c => if got < c ∧ c ≤ got + (j : Int) then none else M1 c) (got + j + 1) none := by
                    funext c
                    unfold upd
                    show (if got < c ∧ c ≤ got + ((j + 1 : Nat) : Int) then none else M1 c) = if c = got + j + 1 then none else (if got < c ∧ c ≤ got + (j : Int) then none else M1 c)
                    by_cases h1 : c = got + j + 1
                    · rw [if_pos h1, if_pos (by omega)]
                    · rw [if_neg h1]
                      by_cases h2 : got < c ∧ c ≤ got + (j : Int)
                      · rw [if_pos h2, if_pos (by omega)]
                      · rw [if_neg h2, if_neg (by omega)]
                  unfold Kpl
                  rw [e]
                  exact h
                refine ⟨⟨j + 1, A4, c4, q ++ [x], by omega, rfl, by simp [hql], ?_, ?_, hkk, ho4, (unhide HBr).trans (hby3.trans hby4), ?_⟩, by simp [lenV]; omega⟩
                · rw [rowOf, List.map_append]
                  exact unhide HO4
                · rw [show got + ((j + 1 : Nat) : Int) = got + j + 1 by omega]
                  exact hb4
                · intro i y hy
                  rcases Nat.lt_or_ge i q.length with h | h
                  · rw [List.getElem?_append_left h] at hy
                    exact unhide HQr i y hy
                  · have hlt := (List.getElem?_eq_some_iff.1 hy).1
                    simp at hlt
                    obtain rfl : i = q.length := by omega
                    rw [List.getElem?_append_right (Nat.le_refl _), Nat.sub_self] at hy
                    simp at hy
                    subst hy
                    rw [hql, show got + 1 + (j : Int) = got + j + 1 by omega]
                    exact hMj
end Go.Proofs.Ytmmkjphkfhgcpaa
