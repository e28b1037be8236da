/- The document's end: In of a frame that is its own. -/
import Derived.Test.YtmmkjphkfhgcpaaLinkRefIn
namespace Go.Proofs.Ytmmkjphkfhgcpaa
set_option linter.unusedVariables false
open Go.RowKit

theorem keptOf_none {C : List (Int × Body)} {a : Int} (h : ∀ x ∈ C, x.1 ≠ a) : keptOf C a = none := by
  have : C.find? (fun x => x.1 == a) = none := List.find?_eq_none.2 fun x hx e => h x hx (beq_iff_eq.1 e)
  unfold keptOf
  rw [this]
  rfl
theorem keptOf_mem {C : List (Int × Body)} {a : Int} {x : Body} (h : keptOf C a = some x) : (a, x) ∈ C := by
  unfold keptOf at h
  rw [Option.map_eq_some_iff] at h
  obtain ⟨y, hy, rfl⟩ := h
  have h1 := List.mem_of_find?_eq_some hy
  have h2 := List.find?_some hy
  have h2 : y.1 = a := beq_iff_eq.1 h2
  rw [← h2]
  exact h1
theorem RefAt.put {w : World} {B p : Nat} {s s' : RS} (h : RefAt w B p s) (i : Nat) (v : Value) (hc : (refCells s).setIfInBounds i v = refCells s') (e1 : s'.sA = s.sA) (e2 : s'.sc = s.sc) (e3 : s'.S = s.S) (e4 : s'.cA = s.cA) (e5 : s'.cc = s.cc) (e6 : s'.C = s.C) :
    RefAt (w.setCell ⟨p, i, none⟩ v) B p s' ∧ Only (fun k => k = p) w (w.setCell ⟨p, i, none⟩ v) ∧ By w (w.setCell ⟨p, i, none⟩ v) := by
  have ho : Only (fun k => k = p) w (w.setCell ⟨p, i, none⟩ v) := Only.setCell (S := fun k => k = p) (p := ⟨p, i, none⟩) (Only.refl (fun k => k = p) w) rfl _
  have hb : By w (w.setCell ⟨p, i, none⟩ v) := By.of_stays (Stays.setCell h.blk (by decide))
  have hk := h.blk.set_ i v
  rw [hc] at hk
  have ap := h.apart
  obtain ⟨ep, sA, sc, S, ak, cA, cc, C, got⟩ := s'
  simp only at e1 e2 e3 e4 e5 e6
  subst e1 e2 e3 e4 e5 e6
  exact ⟨⟨hk, own_only h.sent ho (fun k hk e => ap.1 (e ▸ hk)), own_only h.came ho (fun k hk e => ap.2.1 (e ▸ hk)), fun x hx => (h.lieS x hx).by hb, fun x hx => (h.lieC x hx).by hb, h.ge⟩, ho, hb⟩

set_option maxHeartbeats 8000000 in
set_option maxRecDepth 20000 in
theorem refIn_ok (B p : Nat) (s : RS) (v sq a : Int) (A : Option Addr) (b : List UInt8) (c : Nat) (w : World) (h : RefAt w B p s) (h1 : 0 ≤ s.ak) (h2 : s.ak ≤ 1000000) (h3 : s.S.length ≤ 1000000) (h4 : s.C.length ≤ 1000000) (h5 : 0 ≤ s.got) (h6 : s.got ≤ 100000000)
    (ha0 : 0 ≤ a) (hs0 : 0 ≤ sq) (hal : a ≤ lastOf s) (hsm : sq ≤ 9223372036854775807) (hr : ∀ u, Only (fun k => k = p) w u → RdB u w.heap.size A b) (hb : b.length ≤ 1048576) (hwin : ∀ x ∈ s.C, x.1 ≤ s.got + 16) :
    Calls Try.prog 24 #[.pointer (some ⟨p, 0, none⟩), .agg #[.int .i64 v, .int .i64 s.ep, .int .i64 sq, .int .i64 a, .slice A b.length c]] w (RefIn w B p s s.ep sq a b) := by
  have HM0 := hide ((Mem.start w).new (t := 31) (cs := #[.int .i64 v, .int .i64 s.ep, .int .i64 sq, .int .i64 a, .slice A b.length c]) w.heap.size rfl)
  have HA := hide (h.new (unhide HM0).below)
  have fc := refAt (unhide HA).blk
  have fz2 := (unhide HA).blk.frozen 2
  have fd := Lnk.cellsAt (unhide HM0).blk0
  have HH := hide h
  have HL := hide (fun (u : World) (hu : RefAt u B p s) => last_any B p s u hu (by omega) (by omega) (by omega))
  have HR := hide hr
  have HWIN := hide hwin
  have hll : lastOf s ≤ 2000016 := by unfold lastOf; split <;> omega
  obtain ⟨L, hL⟩ : ∃ L, lastOf s = L := ⟨_, rfl⟩
  have HAL := hide hal
  rw [hL] at HL hal hll
  have f1 : decide (sq < 0) = false := decide_eq_false (by omega)
  have f2 : decide (a < 0) = false := decide_eq_false (by omega)
  have f3 : decide (L < a) = false := decide_eq_false (by omega)
  have hpl := h.blk.lt
  have hpn : p ≠ w.heap.size := Nat.ne_of_lt hpl
  clear h hr hwin hL
  go_enter Try.func24, Try.ntmps24
  go_wp2_with fail
  go_quiet (fail)
  go_wp2_with fail
  go_quiet (exact quiet_off (unhide HL _ ((unhide HA).drewN _)))
  go_wp2_with fail
  go_quiet (fail)
  go_upto_if 39 with (fail)
  go_cut [] from 33 (fun u => RefAt u B p { s with ak := max s.ak a } ∧ Blk u w.heap.size 31 #[.int .i64 v, .int .i64 s.ep, .int .i64 sq, .int .i64 a, .slice A b.length c] ∧ Only (fun k => k = p) w u ∧ By w u)
  case first =>
    by_cases hak : a ≤ s.ak
    · have f4 : decide (s.ak < a) = false := decide_eq_false (by omega)
      go_wp2_with fail
      go_meet
      case rel =>
        rw [show max s.ak a = s.ak by omega]
        have hby0 := By.of_new (unhide HM0).below
        exact ⟨(((unhide HA).drewN _).drewN _).drewN _, Blk.drewN (Blk.drewN (Blk.drewN (unhide HM0).blk0 _) _) _, (((Only.of_new (unhide HM0).below).drewN _).drewN _).drewN _, fun g cs fz hg => hby0 g cs fz hg⟩
    · have f4 : decide (s.ak < a) = true := decide_eq_true (by omega)
      go_wp2_with fail
      go_meet
      case rel =>
        rw [show max s.ak a = a by omega]
        have g := fun n : Nat => ((unhide HA).drewN n).put 2 (.int .i64 a) (s' := { s with ak := a }) rfl rfl rfl rfl rfl rfl rfl
        have hbk := fun n : Nat => (Blk.drewN (unhide HM0).blk0 n).far (p := ⟨p, 2, none⟩) (Ne.symm hpn) (.int .i64 a)
        have hby0 := By.of_new (unhide HM0).below
        exact ⟨(g _).1, hbk _, ((Only.of_new (unhide HM0).below).drewN _).trans (g _).2.1, fun k cs fz hg => (g _).2.2 k cs fz (hby0 k cs fz hg)⟩
  case rest =>
    clear fc fz2 fd HL f1 f2 f3
    obtain ⟨hq, hf, ho, hby⟩ := hcut
    have HQ := hide hq; have HF := hide hf; have HO := hide ho; have HBY := hide hby
    have HF0 : Hid (∀ s' : RS, s'.ep = s.ep → s'.S = s.S → s'.ak = max s.ak a → ∀ (q : Bodies) (er : Int), ((sq ≤ s.got ∧ er = 0 ∧ q = [] ∧ s'.got = s.got ∧ s'.C = s.C) ∨ (s.got + 16 < sq ∧ er = 9 ∧ q = [] ∧ s'.got = s.got ∧ s'.C = s.C) ∨
      (s.got < sq ∧ sq ≤ s.got + 16 ∧ er = 0 ∧ s'.got = s.got + q.length ∧ (((keptOf s.C sq).isSome = true ∧ s'.C = s.C) ∨ (keptOf s.C sq = none ∧ ∃ x : Body, x.1 = b ∧ s'.C = s.C ++ [(sq, x)])) ∧
        (∀ (i : Nat) (x : Body), q[i]? = some x → keptOf s'.C (s.got + 1 + i) = some x) ∧ keptOf s'.C (s.got + 1 + q.length) = none)) → RefSays s s.ep sq a b s' q er) := hide (fun s' e1 e2 e3 q er h => ⟨e1, e2, .inr (.inr ⟨rfl, hs0, ha0, unhide HAL, e3, h⟩)⟩)
    have fc := refAt hq.blk
    have fd := Lnk.cellsAt hf
    have hw2 : IntKind.i64.wrap (sq - s.got) = sq - s.got := by rw [IntKind.wrap_i64]; omega
    clear hq hf ho hby
    by_cases hso : sq ≤ s.got
    · go_wp2_with fail
      go_quiet (fail)
      go_wp2_with fail
      go_ret2
      exact ⟨_, [], none, 0, 0, rfl, own_nil _ _ _ _, fun x hx => by simp at hx, (unhide HQ).drewN _, ((unhide HO).drewN _).mono (fun k _ h => .inl h), fun k cs fz hg => unhide HBY k cs fz hg, unhide HF0 { s with ak := max s.ak a } rfl rfl rfl [] 0 (.inl ⟨hso, rfl, rfl, rfl, rfl⟩), rfl, rfl, Nat.le_succ _⟩
    · by_cases hfar : 16 < sq - s.got
      · go_wp2_with fail
        go_quiet (fail)
        go_wp2_with fail
        go_quiet (fail)
        go_wp2_with fail
        go_ret2
        exact ⟨_, [], none, 0, 9, rfl, own_nil _ _ _ _, fun x hx => by simp at hx, ((unhide HQ).drewN _).drewN _, (((unhide HO).drewN _).drewN _).mono (fun k _ h => .inl h), fun k cs fz hg => unhide HBY k cs fz hg, unhide HF0 { s with ak := max s.ak a } rfl rfl rfl [] 9 (.inr (.inl ⟨by omega, rfl, rfl, rfl, rfl⟩)), rfl, rfl, Nat.le_succ _⟩
      · have HKP := hide (fun (u : World) (hu : RefAt u B p { s with ak := max s.ak a }) => kept_any B p { s with ak := max s.ak a } sq u hu (by show s.C.length ≤ _; omega))
        go_wp2_with fail
        go_quiet (fail)
        go_wp2_with fail
        go_quiet (fail)
        go_upto_if 68 with (go_at_call 29; refine (unhide HKP _ ((unhide HQ).drewN _)).mono ?_; rintro _ w5 ⟨rfl, rfl⟩)
        have hrd : ∀ n : Nat, RdB (wc.drewN n) w.heap.size A b := fun n => unhide HR wc (unhide HO)
        have hsz := (unhide HO).size
        go_cut [6, 7] from 60 (fun _ _ u => ∃ (cA : Option Addr) (cc : Nat) (C : List (Int × Body)), RefAt u B p { s with ak := max s.ak a, cA := cA, cc := cc, C := C } ∧ Only (RFoot p s) w u ∧ By w u ∧ (((keptOf s.C sq).isSome = true ∧ C = s.C) ∨ (keptOf s.C sq = none ∧ ∃ x : Body, x.1 = b ∧ C = s.C ++ [(sq, x)])))
        case first =>
          rcases hk : keptOf s.C sq with _ | x0
          · obtain ⟨i0, hi, hz0, hz1, hz2⟩ := info_parts u8info
            obtain ⟨i1, hi1, hy0, hy1, hy2⟩ := info_parts bodyinfo
            go_upto_region 13 with fail
            have HOn : Hid (∀ n : Nat, ((wc.drewN n).alloc (.cells #[] 5)).ownsRow wc.heap.size 5 1 (.slice (some ⟨wc.heap.size, 0, none⟩) 0 0) 0 []) := hide (fun n => own_new (wc.drewN n) wc.heap.size #[] 5 0 [] (Nat.le_refl _) (by simp [maxLen]) rfl rfl)
            have HRn : Hid (∀ n : Nat, RdB ((wc.drewN n).alloc (.cells #[] 5)) w.heap.size A b) := hide (fun n => (hrd n).alloc hsz _)
            have fca := fun n : Nat => refAt (((unhide HQ).drewN n).blk.alloc (.cells #[] 5))
            have fda := fun n : Nat => Lnk.cellsAt ((Blk.drewN (unhide HF) n).alloc (.cells #[] 5))
            have HKN := hide hk
            clear hw2 HKP HWIN HF0 HAL HH HA HM0 hrd hk hsm hal hll hfar hso
            go_region_law
              (first
                | (refine step_append_any _ rfl (.tmp 76) (.tmp 78) _ rfl wc.heap.size 5 i0 _ 1 1 Try.underlying22 hi hz0 hz1 hz2 rfl (by omega) _ 0 [] (by rfl) (unhide HOn _) _ A b.length c _ (by rfl) (unhide HRn _).v (by simp) oneCell_Bv (by simp only [maxLen]; omega) (by omega) (by simp) ?_
                   intro A2 c2 w2 hown2 hg2 hat2 hbel2 hcc2
                   rw [Nat.zero_add, List.nil_append] at hown2; rw [Nat.zero_add] at hcc2 ⊢
                   have hb2 : Below wc.heap.size wc w2 := (((below_drewN' (Below.refl _ wc) _).alloc (by simp) (.cells #[] 5)).trans hbel2)
                   have HB2 := hide hb2; have HO2 := hide hown2; have HQ2 := hide ((unhide HQ).new hb2); have HF2 := hide ((unhide HF).below hb2 (unhide HF).lt); have fc2 := refAt (unhide HQ2).blk; have fd2 := Lnk.cellsAt (unhide HF2); have ff2 := (unhide HQ2).blk.frozen 3; have fc2a := refAt ((unhide HQ2).blk.alloc (.cells #[.int .i64 sq, .slice A2 b.length c2] 71)); clear hown2 hg2 hat2 hbel2 hb2)
                | (refine step_append_any _ rfl (.tmp 73) (.tmp 81) _ rfl B 71 i1 _ 2 32 Try.underlying55 hi1 hy0 hy1 hy2 rfl (by omega) _ s.C.length _ (by rfl) ((unhide HQ2).came.alloc (.cells #[.int .i64 sq, .slice A2 b.length c2] 71)) _ _ 1 1 _ (by rfl) (RdV.of_own (base := 0) (size := 2) (World.ownsRow_lit w2 #[.int .i64 sq, .slice A2 b.length c2] 1 (Nat.zero_le _) (by simp [maxLen]) rfl)) rfl (by intro u hu; simp at hu; rcases hu with rfl | rfl <;> rfl) (by simp only [maxLen]; omega) (by omega) (by have := (unhide HQ2).ge; have := (unhide HQ2).blk.lt; simp; omega) ?_
                   intro A3 c3 w3 hown3 hg3 hat3 hbel3 hcc3
                   have HP3 := hide (((unhide HQ2).blk.alloc (.cells #[.int .i64 sq, .slice A2 b.length c2] 71)).grown hg3 (fun e => (unhide HQ2).apart.2.1 e.symm))
                   have HF3 := hide (((unhide HF2).alloc (.cells #[.int .i64 sq, .slice A2 b.length c2] 71)).grown hg3 (fun e => by
                     obtain ⟨cur, hb1⟩ := own_at (unhide HQ2).came e.symm
                     exact absurd (blk_types hb1 (unhide HF2)) (by decide)))
                   have fc3 := refAt (unhide HP3); have ff3 := (unhide HP3).frozen 3
                   have HO3 := hide hown3; have HG3 := hide hg3; have HAT3 := hide hat3; clear hown3 hg3 hat3 hbel3))
            all_goals go_wp2_with fail
            all_goals
              go_meet
              case rel =>
                have ap := (unhide HQ2).apart
                have hp2 := (unhide HQ2).blk.lt
                have o3 : Only (RFoot p s) w2 w3 := ((Only.refl (RFoot p s) w2).alloc (.cells #[.int .i64 sq, .slice A2 b.length c2] 71)).trans (Only.of_grown (unhide HG3) (fun k hk => .inr (.inr hk)))
                have o4 : Only (RFoot p s) w2 (w3.setCell ⟨p, 3, none⟩ (.slice A3 (s.C.length + 1) c3)) := Only.setCell (S := RFoot p s) (p := ⟨p, 3, none⟩) o3 (.inl rfl) _
                have hby : By w2 (w3.setCell ⟨p, 3, none⟩ (.slice A3 (s.C.length + 1) c3)) := By.of_stays (((Stays.alloc w2 (.cells #[.int .i64 sq, .slice A2 b.length c2] 71)).trans (Stays.grown ((unhide HQ2).came.alloc (.cells #[.int .i64 sq, .slice A2 b.length c2] 71)) (by decide) (unhide HG3))).trans (Stays.setCell (i := 3) (v := .slice A3 (s.C.length + 1) c3) (unhide HP3) (by decide)))
                have oc : Only (fun k => k = p ∨ (Value.slice s.cA s.C.length s.cc).ownBlock = some k) w2 (w3.setCell ⟨p, 3, none⟩ (.slice A3 (s.C.length + 1) c3)) := Only.setCell (S := fun k => k = p ∨ (Value.slice s.cA s.C.length s.cc).ownBlock = some k) (p := ⟨p, 3, none⟩) (((Only.refl _ w2).alloc (.cells #[.int .i64 sq, .slice A2 b.length c2] 71)).trans (Only.of_grown (unhide HG3) (fun k hk => .inr hk))) (.inl rfl) _
                refine ⟨A3, c3, s.C ++ [(sq, (b, A2, c2))], ⟨?_, own_only (unhide HQ2).sent oc (fun k hk h => ?_), ?_, fun x hx => ((unhide HQ2).lieS x hx).by hby, ?_, (unhide HQ2).ge⟩, ((unhide HO).mono (fun k _ h => .inl h)).trans ((Only.of_new (unhide HB2)).trans o4), (unhide HBY).trans ((By.of_new (unhide HB2)).trans hby), .inr ⟨unhide HKN, (b, A2, c2), rfl, rfl⟩⟩
                · have h := (unhide HP3).set_ 3 (.slice A3 (s.C.length + 1) c3)
                  have e : (refCells { s with ak := max s.ak a }).setIfInBounds 3 (.slice A3 (s.C.length + 1) c3) = refCells { s with ak := max s.ak a, cA := A3, cc := c3, C := s.C ++ [(sq, (b, A2, c2))] } := by simp [refCells]
                  rw [e] at h
                  exact h
                · rcases h with rfl | h
                  · exact ap.1 hk
                  · exact ap.2.2 k hk h
                · show (w3.setCell ⟨p, 3, none⟩ (.slice A3 (s.C.length + 1) c3)).ownsRow B 71 2 (.slice A3 (s.C ++ [(sq, (b, A2, c2))]).length c3) (s.C ++ [(sq, (b, A2, c2))]).length (cameCells (s.C ++ [(sq, (b, A2, c2))]))
                  have e : cameCells (s.C ++ [(sq, (b, A2, c2))]) = cameCells s.C ++ [.int .i64 sq, .slice A2 b.length c2] := by simp [cameCells, bv]
                  rw [e, List.length_append]
                  exact ownsRow_setCell_other (unhide HO3) (fun e => by
                    rcases unhide HAT3 with h | h
                    · rw [h] at e; exact ap.2.1 e
                    · rw [h] at e
                      injection e with e
                      simp at e
                      omega) _
                · intro y hy
                  rcases List.mem_append.1 hy with hy | hy
                  · exact ((unhide HQ2).lieC y hy).by hby
                  · obtain rfl := List.mem_singleton.1 hy
                    exact ⟨(RdT.of_own (unhide HO2)).by hby, hcc2, hb⟩
          · go_wp2_with fail
            go_meet
            case rel => exact ⟨s.cA, s.cc, s.C, (unhide HQ).drewN _, ((unhide HO).drewN _).mono (fun k _ h => .inl h), fun k cs fz hg => unhide HBY k cs fz hg, .inl ⟨by rw [hk]; rfl, rfl⟩⟩
        case rest =>
          clear fc fd hw2 HKP hrd HQ HF HO HBY
          obtain ⟨cA, cc, C, hq, ho, hby, hC⟩ := hcut
          obtain ⟨i0, hi, hz0, hz1, hz2⟩ := info_parts slinfo
          have hwinC : ∀ x ∈ C, x.1 ≤ s.got + 16 := by
            intro x hx
            rcases hC with ⟨_, rfl⟩ | ⟨_, y, _, rfl⟩
            · exact unhide HWIN x hx
            · rcases List.mem_append.1 hx with hx | hx
              · exact unhide HWIN x hx
              · obtain rfl := List.mem_singleton.1 hx
                show sq ≤ s.got + 16; omega
          have hCl : C.length ≤ 1000001 := by
            rcases hC with ⟨_, rfl⟩ | ⟨_, y, _, rfl⟩
            · omega
            · simp; omega
          have HCL : Hid (C.length ≤ s.C.length + 1) := hide (by
            rcases hC with ⟨_, rfl⟩ | ⟨_, y, _, rfl⟩
            · omega
            · simp)
          have HC := hide hC; have HQ := hide hq; have HO := hide ho; have HBY := hide hby; have HWC := hide hwinC
          have hszc := ho.size
          have hpm := (hq.mem (k := p) (.inl rfl)).2
          clear hC hq ho hby hwinC
          go_wp2_with fail
          go_loopw [8] (fun o wr => ∃ (j : Nat) (Ao : Option Addr) (co : Nat) (q : Bodies), j ≤ 16 ∧ o = .slice Ao j co ∧ q.length = j ∧ wr.ownsRow w.heap.size 22 1 (.slice Ao j co) j (rowOf q) ∧
            RefAt wr B p { s with ak := max s.ak a, cA := cA, cc := cc, C := C, got := s.got + j } ∧ Only (RFoot p s) w wr ∧ By wc wr ∧ (∀ (i : Nat) (x : Body), q[i]? = some x → keptOf C (s.got + 1 + i) = some x)) (fun o _ => 17 - lenV o)
          case atStart => exact ⟨0, none, 0, [], by omega, rfl, rfl, own_nil _ _ _ _, by simpa using unhide HQ, unhide HO, By.refl _, fun i x h => by simp at h⟩
          case round =>
            obtain ⟨j, Ao, co, q, hj16, rfl, hql, hown, hqr, hor, hbyr, hqq⟩ := hrel
            have hw1 : IntKind.i64.wrap (s.got + j + 1) = s.got + j + 1 := by rw [IntKind.wrap_i64]; omega
            have fc := refAt hqr.blk
            have ff := hqr.blk.frozen 4
            have HRow := hide hown; have HQr := hide hqr; have HOr := hide hor; have HBr := hide hbyr; have HQQ := hide hqq
            have HKP : Hid (Calls Try.prog 29 #[.pointer (some ⟨p, 0, none⟩), .int .i64 (s.got + j + 1)] wr fun e w' => e = .returned (.tuple #[((keptOf C (s.got + j + 1)).map bv).getD (.slice none 0 0), .bool (keptOf C (s.got + j + 1)).isSome]) ∧ wr = w') := hide (kept_any B p { s with ak := max s.ak a, cA := cA, cc := cc, C := C, got := s.got + j } (s.got + j + 1) wr hqr (by show C.length ≤ _; omega))
            clear hown hqr hor hbyr hqq
            rcases hMj : keptOf C (s.got + j + 1) with _ | x
            · rw [hMj] at HKP
              go_wp2_with (go_at_call 29; refine (unhide HKP).mono ?_; rintro _ w5 ⟨rfl, rfl⟩)
              go_ret2
              refine ⟨{ s with ak := max s.ak a, cA := cA, cc := cc, C := C, got := s.got + j }, q, Ao, co, 0, by rw [hql]; rfl, by rw [hql]; exact unhide HRow, ?_, unhide HQr, unhide HOr, (unhide HBY).trans (unhide HBr), unhide HF0 { s with ak := max s.ak a, cA := cA, cc := cc, C := C, got := s.got + j } rfl rfl rfl q 0 (.inr (.inr ⟨by omega, by omega, rfl, by rw [hql], ?_, unhide HQQ, by rw [hql, ← hMj]; congr 1; omega⟩)), rfl, rfl, unhide HCL⟩
              · intro y hy
                obtain ⟨i, hi⟩ := List.mem_iff_getElem?.1 hy
                exact (unhide HQr).lieC _ (keptOf_mem (unhide HQQ i y hi))
              · exact unhide HC
            · have hj : j < 16 := by
                have := unhide HWC _ (keptOf_mem hMj)
                simp only at this
                omega
              rw [hMj] at HKP
              simp only [Option.map_some, Option.getD_some, Option.isSome_some, bv] at HKP
              have g := (unhide HQr).put 4 (.int .i64 (s.got + j + 1)) (s' := { s with ak := max s.ak a, cA := cA, cc := cc, C := C, got := s.got + j + 1 }) rfl rfl rfl rfl rfl rfl rfl
              have HG := hide g
              clear g
              go_wp2_with (first
                | (go_at_call 29; refine (unhide HKP).mono ?_; rintro _ w5 ⟨rfl, rfl⟩)
                | (refine wpList_append_any _ rfl (.tmp 106) (.tmp 108) _ rfl w.heap.size 22 i0 _ 1 24 Try.underlying32 hi hz0 hz1 hz2 rfl (by omega) _ j _ (by rfl) (own_only (S := fun k => k = p) (unhide HRow) (((Only.refl (fun k => k = p) _).setCell (p := ⟨p, 4, none⟩) rfl _).alloc _) (fun k hk e => by have := ((unhide HRow).lt k hk).1; omega)) (wr.heap.size + 1) (some ⟨wr.heap.size, 0, none⟩) 1 1 [.slice x.2.1 x.1.length x.2.2] (by rfl) (by have h := RdV.one (wr.setCell ⟨p, 4, none⟩ (.int .i64 (s.got + j + 1))) (.slice x.2.1 x.1.length x.2.2) 22 (0, 0); simpa using h) rfl (by intro u hu; simp at hu; subst hu; rfl) (by simp only [maxLen]; omega) (by omega) (by have h1 := (unhide HOr).size; simp; omega) ?_; intro A4 c4 w4 hown4 hg4 hat4 hbel4 hcc4; have HO4 := hide hown4; have HG4 := hide hg4; clear hown4 hg4 hat4 hbel4))
              have hol := fun k hk => ((unhide HRow).lt k hk).1
              have hrow3 := own_only (S := fun k => k = p) (unhide HRow) (((Only.refl (fun k => k = p) wr).setCell (p := ⟨p, 4, none⟩) rfl (.int .i64 (s.got + j + 1))).alloc (.cells #[.slice x.2.1 x.1.length x.2.2] 22)) (fun k hk e => by have := hol k hk; omega)
              have og : Only (fun k => (Value.slice Ao j co).ownBlock = some k) (wr.setCell ⟨p, 4, none⟩ (.int .i64 (s.got + j + 1))) w4 := ((Only.refl _ _).alloc (.cells #[.slice x.2.1 x.1.length x.2.2] 22)).trans (Only.of_grown (unhide HG4) fun k hk => hk)
              have hbg : By (wr.setCell ⟨p, 4, none⟩ (.int .i64 (s.got + j + 1))) w4 := By.of_stays ((Stays.alloc _ (.cells #[.slice x.2.1 x.1.length x.2.2] 22)).trans (Stays.grown hrow3 (by decide) (unhide HG4)))
              have hrow2 := own_only (S := fun k => k = p) (unhide HRow) ((Only.refl (fun k => k = p) wr).setCell (p := ⟨p, 4, none⟩) rfl (.int .i64 (s.got + j + 1))) (fun k hk e => by have := hol k hk; omega)
              refine ⟨⟨j + 1, A4, c4, q ++ [x], by omega, rfl, by simp [hql], ?_, ?_, ?_, (unhide HBr).trans ((unhide HG).2.2.trans hbg), ?_⟩, by simp [lenV]; omega⟩
              · rw [rowOf, List.map_append]
                exact unhide HO4
              · have h := (unhide HG).1.only og hbg (fun k hk e => by
                  rcases hk with rfl | hk | hk
                  · have := hol k e; omega
                  · have := hol k e; have := ((unhide HH).mem (k := k) (.inr (.inl hk))).2; omega
                  · obtain ⟨cur, hb1⟩ := own_at hrow2 e
                    obtain ⟨cur2, hb2⟩ := own_at (unhide HG).1.came hk
                    exact absurd (blk_types hb1 hb2) (by decide))
                rw [show s.got + ((j + 1 : Nat) : Int) = s.got + j + 1 by omega]
                exact h
              · exact (((unhide HOr).mono (T := fun k => RFoot p s k ∨ w.heap.size ≤ k) (fun k _ h => .inl h)).trans (((unhide HG).2.1.mono (T := fun k => RFoot p s k ∨ w.heap.size ≤ k) (fun k _ h => .inl (.inl h))).trans (og.mono (T := fun k => RFoot p s k ∨ w.heap.size ≤ k) (fun k _ h => .inr (hol k h))))).mono (fun k hk h => h.elim id (fun h => by omega))
              · intro i y hy
                rcases Nat.lt_or_ge i q.length with h | h
                · rw [List.getElem?_append_left h] at hy
                  exact unhide HQQ i y hy
                · have hlt := (List.getElem?_eq_some_iff.1 hy).1
                  simp at hlt
                  obtain rfl : i = q.length := by omega
                  rw [List.getElem?_append_right (Nat.le_refl _), Nat.sub_self] at hy
                  simp at hy
                  subst hy
                  rw [hql, show s.got + 1 + (j : Int) = s.got + j + 1 by omega]
                  exact hMj
end Go.Proofs.Ytmmkjphkfhgcpaa
