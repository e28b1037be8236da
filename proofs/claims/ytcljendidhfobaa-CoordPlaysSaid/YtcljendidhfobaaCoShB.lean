/- The document's Shares. -/
import Derived.Test.YtcljendidhfobaaCoShA
namespace Go.Proofs.Ytcljendidhfobaa
set_option linter.unusedVariables false
open Go.RowKit

theorem rshinfo : (Try.prog.info? 57).map (fun i => (i.zero, i.size, i.bytes)) = some (some (.agg #[.int .i64 0, .slice none 0 0]), 2, 32) := by kernel_rfl
theorem rvers_push {w w' : World} {base : Nat} {A A4 : Option Addr} {k c c4 : Nat} {lk : List Sq} {nd : Int} {vs : List Vr} (hr : w.ownsRow base 57 2 (.slice A k c) k (srow lk)) (hv : ∀ s ∈ lk, w.ownsRow base 33 6 (.slice s.A s.vs.length s.c) s.vs.length (vrow s.vs))
    (hn : w.ownsRow base 33 6 (.slice A4 vs.length c4) vs.length (vrow vs)) {cs : Array Value} {t : TypeId} (hg : (w.alloc (.cells cs t)).grownBy w' (Value.slice A k c).ownBlock) :
    ∀ s ∈ lk ++ [⟨nd, vs, A4, c4⟩], w'.ownsRow base 33 6 (.slice s.A s.vs.length s.c) s.vs.length (vrow s.vs) := by
  have o1 : Only (fun b => (Value.slice A k c).ownBlock = some b) w w' := (Only.of_new ((Below.refl _ w).alloc (Nat.le_refl _) _)).trans (Only.of_grown hg fun b hb => hb)
  have hvo : ∀ (s : Sq), w.ownsRow base 33 6 (.slice s.A s.vs.length s.c) s.vs.length (vrow s.vs) → w'.ownsRow base 33 6 (.slice s.A s.vs.length s.c) s.vs.length (vrow s.vs) := fun s hs =>
    own_only hs o1 fun b hb hS => by
      obtain ⟨cur, hbv⟩ := own_blk hs hb
      obtain ⟨cur2, hb2⟩ := own_blk hr hS
      exact absurd (blk_type hbv hb2) (by decide)
  intro s hs
  rcases List.mem_append.1 hs with hs | hs
  · exact hvo s (hv s hs)
  · simp at hs
    subst hs
    exact hvo ⟨nd, vs, A4, c4⟩ hn
set_option maxHeartbeats 16000000 in
set_option maxRecDepth 20000 in
theorem rshares_any (m : Mp) (A : Option Addr) (c B : Nat) (ws : List Vr) (w : World) (h : m.Ok w B) (hB : B ≤ w.heap.size) (hr : RdV w B A (vrow ws)) (hl : m.cuts.length ≤ 1000) (hw : ws.length ≤ 1000) :
    Calls Try.prog 19 #[.agg #[.slice m.A m.cuts.length m.c, .slice m.A2 m.nodes.length m.c2], .slice A ws.length c] w fun e w' => ∃ (A2 : Option Addr) (c2 : Nat) (lk : List Sq), e = .returned (.slice A2 lk.length c2) ∧ lk.map Sq.sh = shTo (ownV m) ws 4 ∧ w'.ownsRow w.heap.size 57 2 (.slice A2 lk.length c2) lk.length (srow lk) ∧
      (∀ s ∈ lk, w'.ownsRow w.heap.size 33 6 (.slice s.A s.vs.length s.c) s.vs.length (vrow s.vs)) ∧ Below w.heap.size w w' := by
  obtain ⟨i0, hi, hz0, hz1, hz2⟩ := info_parts verinfo
  obtain ⟨j0, hj, hy0, hy1, hy2⟩ := info_parts rshinfo
  have hb0 : Below w.heap.size w (w.alloc (.cells #[.slice m.A m.cuts.length m.c, .slice m.A2 m.nodes.length m.c2] 53)) := (Below.refl _ _).alloc (Nat.le_refl _) _
  have hq0 : Blk (w.alloc (.cells #[.slice m.A m.cuts.length m.c, .slice m.A2 m.nodes.length m.c2] 53)) w.heap.size 53 #[.slice m.A m.cuts.length m.c, .slice m.A2 m.nodes.length m.c2] := Blk.new _ _ _
  have hok := (h.more hB).below hb0
  have hrd := (hr.more hB).below hb0
  obtain ⟨w0, hw0⟩ : ∃ u, w.alloc (.cells #[.slice m.A m.cuts.length m.c, .slice m.A2 m.nodes.length m.c2] 53) = u := ⟨_, rfl⟩
  rw [hw0] at hb0 hq0 hok hrd
  have HOK := hide hok; have HRD := hide hrd; have HQ0 := hide hq0; have HB0 := hide hb0
  have hg0 := hq0.lt
  clear h hr hok hrd hb0 hq0
  obtain ⟨f, hf⟩ : ∃ f, ownV m = f := ⟨_, rfl⟩
  have HF := hide hf
  rw [hf]
  clear hf
  go_enter Try.func19, Try.ntmps19
  go_wp2_with fail
  go_loopw [5, 6] (fun ov nv wr => ∃ (k : Nat) (A2 : Option Addr) (c2 : Nat) (lk : List Sq), k ≤ 4 ∧ nv = .int .i64 k ∧ ov = .slice A2 lk.length c2 ∧ lk.map Sq.sh = shTo f ws k ∧ wr.ownsRow w0.heap.size 57 2 (.slice A2 lk.length c2) lk.length (srow lk) ∧ (∀ s ∈ lk, wr.ownsRow w0.heap.size 33 6 (.slice s.A s.vs.length s.c) s.vs.length (vrow s.vs)) ∧ Below w0.heap.size w0 wr) (fun _ nv _ => 4 - (intOf nv).toNat)
  case atStart => exact ⟨0, none, 0, [], by omega, rfl, rfl, rfl, own_nil _ _ _ _, fun s hs => absurd hs (by simp), Below.refl _ _⟩
  case round =>
    obtain ⟨k, A2, c2, lk, hk, rfl, rfl, hsh, hown, hvers, hb⟩ := hrel
    have HB := hide hb; have HO := hide hown; have HV := hide hvers; have HSH := hide hsh
    have hsz := hb.size
    have hlk : lk.length ≤ 4 := by
      have h1 := shTo_len f ws k
      have h2 := congrArg List.length hsh
      rw [List.length_map] at h2
      omega
    clear hb hown hvers hsh
    by_cases hlt : k < 4
    · have hltz : (k : Int) < 4 := by omega
      obtain ⟨wo, hwo⟩ : ∃ u, u = wr := ⟨_, rfl⟩
      subst hwo
      go_wp2_with fail
      go_loopw [7, 8] (fun lv jv wq => ∃ (j : Nat) (A3 : Option Addr) (c3 : Nat), j ≤ ws.length ∧ jv = .int .i64 j ∧ lv = .slice A3 (atN f k (ws.take j)).length c3 ∧ wq.ownsRow wo.heap.size 33 6 (.slice A3 (atN f k (ws.take j)).length c3) (atN f k (ws.take j)).length (vrow (atN f k (ws.take j))) ∧ Below wo.heap.size wo wq) (fun _ jv _ => ws.length - (intOf jv).toNat)
      case atStart => exact ⟨0, none, 0, by omega, rfl, rfl, own_nil _ _ _ _, Below.refl _ _⟩
      case round =>
        obtain ⟨j, A3, c3, hj', rfl, rfl, hown, hbo⟩ := hrel
        have HOW := hide hown; have HBO := hide hbo
        have hle := atN_le f k ws j
        have hso := hbo.size
        have hbw : Below w0.heap.size w0 wr := (unhide HB).trans (hbo.mono hsz)
        have HBW := hide hbw
        have hs0r : w0.heap.size ≤ wr.heap.size := hbw.size
        clear hown hbo hbw
        by_cases hjl : j < ws.length
        · obtain ⟨v, hv⟩ : ∃ v, ws[j]? = some v := ⟨ws[j], List.getElem?_eq_getElem hjl⟩
          obtain ⟨ad, hA, hadl, a0, a1, a2, a3, a4, a5⟩ := verAt ((unhide HRD).below ((unhide HBW).mono (Nat.le_of_lt hg0))) hv
          subst hA
          have hsu := atN_succ f k hv
          have HSU := hide hsu
          have hfv : ownM m v.key = f v := by rw [← unhide HF]; rfl
          have HVA : Hid (∀ u, Below wr.heap.size wr u → VerAt u (ad.add (j * 6)) v) := hide (fun u hu => (verAt ((unhide HRD).below (((unhide HBW).mono (Nat.le_of_lt hg0)).trans (hu.mono (Nat.le_trans (Nat.le_of_lt hg0) hs0r)))) hv).elim fun ad2 h => by
            obtain ⟨e, _, h⟩ := h
            injection e with e
            rw [e]
            exact h)
          obtain ⟨ky, vl, g, ts, dc, tx⟩ := v
          simp only at a0 a1 a2 a3 a4 a5 hfv
          have hq0r : Blk wr w.heap.size 53 #[.slice m.A m.cuts.length m.c, .slice m.A2 m.nodes.length m.c2] := (unhide HQ0).below (unhide HBW) hg0
          have hgr : w.heap.size < wr.heap.size := hq0r.lt
          have m0 : wr.cell? ⟨w.heap.size, 0, none⟩ = some (.slice m.A m.cuts.length m.c) := hq0r.cell 0
          have m1 : wr.cell? ⟨w.heap.size, 1, none⟩ = some (.slice m.A2 m.nodes.length m.c2) := hq0r.cell 1
          have hok6 : m.Ok wr.drew w.heap.size := ((unhide HOK).below ((unhide HBW).mono (Nat.le_of_lt hg0))).below (below_drewN' (Below.refl _ _) 1)
          have HOWN := hide (owner_key m ky w.heap.size wr.drew hok6 (Nat.le_of_lt hgr) hl)
          have HROWN := hide (rowner_key m ky w.heap.size wr.drew hok6 (Nat.le_of_lt hgr) hl)
          obtain ⟨o, hoo⟩ : ∃ o, f ⟨ky, vl, g, ts, dc, tx⟩ = o := ⟨_, rfl⟩
          rw [hfv, hoo] at HROWN
          rw [hoo] at HSU
          have fS : wr.drew.cell? ⟨w.heap.size, 0, none⟩ = some (.slice m.A m.cuts.length m.c) ∧ wr.drew.cell? ⟨w.heap.size, 1, none⟩ = some (.slice m.A2 m.nodes.length m.c2) ∧ wr.drew.cell? (ad.add (j * 6)) = some (.string ky) := ⟨m0, m1, a0⟩
          clear hv hsu hfv hq0r hok6 hoo HOWN
          go_upto_region 9 with fail
          clear a0 a1 a2 a3 a4 a5 m0 m1
          by_cases hfk : o = (k : Int)
          · have g1 : (o == (k : Int)) = true := beq_iff_eq.2 hfk
            have hsu2 := unhide HSU
            rw [if_pos hfk] at hsu2
            have HS2 := hide hsu2
            clear hfk hsu2
            go_region_held3 (fun u => u.cell? ⟨w.heap.size, 0, none⟩ = some (.slice m.A m.cuts.length m.c) ∧ u.cell? ⟨w.heap.size, 1, none⟩ = some (.slice m.A2 m.nodes.length m.c2) ∧ u.cell? (ad.add (j * 6)) = some (.string ky)) (first | assumption | exact fS | exact fS1 | go_keep)
              (first
                | (go_at_call 31; go_must ((
                   refine (unhide HROWN).mono ?_
                   rintro _ w7 ⟨rfl, hb7⟩
                   have hb67 : Below wr.heap.size wr w7 := (below_drewN' (Below.refl _ _) 1).trans hb7
                   obtain ⟨b0, b1, b2, b3, b4, b5⟩ := unhide HVA _ hb67
                   simp only at b0 b1 b2 b3 b4 b5
                   have hk7 := (unhide HQ0).below ((unhide HBW).trans (hb67.mono hs0r)) hg0
                   have fS1 : w7.cell? ⟨w.heap.size, 0, none⟩ = some (.slice m.A m.cuts.length m.c) ∧ w7.cell? ⟨w.heap.size, 1, none⟩ = some (.slice m.A2 m.nodes.length m.c2) ∧ w7.cell? (ad.add (j * 6)) = some (.string ky) := ⟨hk7.cell 0, hk7.cell 1, b0⟩
                   have HB67 := hide hb67
                   have HO7 := hide (own_below (unhide HOW) hb67 (fun g hg => ((unhide HOW).lt g hg).2))
                   have hso7 : wo.heap.size ≤ w7.heap.size := Nat.le_trans hso hb67.size
                   clear hb67 hk7 hb7))))
            all_goals
              go_wp2_with (first
                | (at_builtin
                   refine wpList_append_any _ rfl (.tmp 28) (.tmp 33) _ rfl wo.heap.size 33 i0 _ 6 64 Try.underlying26 hi hz0 hz1 hz2 rfl (by omega) _ (atN f k (ws.take j)).length _ rfl ((unhide HO7).alloc _) _ _ 1 1 _ rfl (RdV.of_own (base := 0) (size := 6) (World.ownsRow_lit w7 #[.string ky, .string vl, .bool g, .int .u64 ts, .int .i64 dc, .int .i64 tx] 1 (Nat.zero_le _) (by simp [maxLen]) rfl)) rfl (by intro u hu; simp at hu; rcases hu with rfl | rfl | rfl | rfl | rfl | rfl <;> rfl) (by simp only [maxLen]; omega) (by omega) (by simp; omega) ?_
                   intro A9 c9 w9 hown9 hg9 hat9 hbel9 hcc9
                   have HO9 := hide hown9
                   have HB9 := hide (((unhide HBO).trans ((unhide HB67).mono hso)).trans (((Below.refl _ w7).alloc hso7 (.cells #[.string ky, .string vl, .bool g, .int .u64 ts, .int .i64 dc, .int .i64 tx] 33)).trans hbel9))
                   clear hown9 hg9 hat9 hbel9 hcc9))
            all_goals
              have hln : (atN f k (ws.take (j + 1))).length = (atN f k (ws.take j)).length + 1 := by rw [unhide HS2, List.length_append]; rfl
              refine ⟨⟨j + 1, A9, c9, by omega, by go_num, by rw [hln], ?_, unhide HB9⟩, by simp [intOf]; omega⟩
              rw [hln, unhide HS2, vrow_app]
              exact unhide HO9
          · have g1 : (o == (k : Int)) = false := beq_eq_false_iff_ne.2 hfk
            have hsu2 := unhide HSU
            rw [if_neg hfk, List.append_nil] at hsu2
            have HS2 := hide hsu2
            clear hfk hsu2
            go_region_held3 (fun u => u.cell? ⟨w.heap.size, 0, none⟩ = some (.slice m.A m.cuts.length m.c) ∧ u.cell? ⟨w.heap.size, 1, none⟩ = some (.slice m.A2 m.nodes.length m.c2) ∧ u.cell? (ad.add (j * 6)) = some (.string ky)) (first | assumption | exact fS | exact fS1 | go_keep)
              (first
                | (go_at_call 31; go_must ((
                   refine (unhide HROWN).mono ?_
                   rintro _ w7 ⟨rfl, hb7⟩
                   have hb67 : Below wr.heap.size wr w7 := (below_drewN' (Below.refl _ _) 1).trans hb7
                   obtain ⟨b0, b1, b2, b3, b4, b5⟩ := unhide HVA _ hb67
                   simp only at b0 b1 b2 b3 b4 b5
                   have hk7 := (unhide HQ0).below ((unhide HBW).trans (hb67.mono hs0r)) hg0
                   have fS1 : w7.cell? ⟨w.heap.size, 0, none⟩ = some (.slice m.A m.cuts.length m.c) ∧ w7.cell? ⟨w.heap.size, 1, none⟩ = some (.slice m.A2 m.nodes.length m.c2) ∧ w7.cell? (ad.add (j * 6)) = some (.string ky) := ⟨hk7.cell 0, hk7.cell 1, b0⟩
                   have HB67 := hide hb67
                   clear hb67 hk7 hb7))))
            all_goals go_wp2_with fail
            all_goals
              refine ⟨⟨j + 1, A3, c3, by omega, by go_num, by rw [unhide HS2], ?_, (unhide HBO).trans ((unhide HB67).mono hso)⟩, by simp [intOf]; omega⟩
              rw [unhide HS2]
              exact own_below (unhide HOW) (unhide HB67) (fun g hg => ((unhide HOW).lt g hg).2)
        · obtain rfl : j = ws.length := by omega
          rw [List.take_length] at HOW hle ⊢
          have hrow := own_below (unhide HO) (unhide HBO) (fun g hg => ((unhide HO).lt g hg).2)
          have hver : ∀ s ∈ lk, wr.ownsRow w0.heap.size 33 6 (.slice s.A s.vs.length s.c) s.vs.length (vrow s.vs) := fun s hs => own_below (unhide HV s hs) (unhide HBO) (fun g hg => ((unhide HV s hs).lt g hg).2)
          have HRW := hide hrow; have HVR := hide hver
          have HNW := hide (own_more (unhide HOW) (fun g hg => Nat.le_trans hsz ((unhide HOW).lt g hg).1) : wr.ownsRow w0.heap.size 33 6 (.slice A3 (atN f k ws).length c3) (atN f k ws).length (vrow (atN f k ws)))
          clear hrow hver
          by_cases he : (atN f k ws).length = 0
          · have hsn := shTo_none he
            have g1 : decide ((0 : Int) < ((atN f k ws).length : Int)) = false := decide_eq_false (by omega)
            have g2 : ¬ (0 : Int) < ((atN f k ws).length : Int) := by omega
            have g3 : ¬ 0 < (atN f k ws).length := by omega
            have HSN := hide hsn
            clear hsn he
            go_wp2_with fail
            go_roundw
            case rel => exact ⟨k + 1, A2, c2, lk, by omega, by go_num, rfl, by rw [unhide HSN]; exact unhide HSH, unhide HRW, unhide HVR, unhide HBW⟩
            case measure => simp [intOf]; omega
          · have hsn := shTo_some he
            have g1 : decide ((0 : Int) < ((atN f k ws).length : Int)) = true := decide_eq_true (by omega)
            have g2 : (0 : Int) < ((atN f k ws).length : Int) := by omega
            have g3 : 0 < (atN f k ws).length := by omega
            have HSN := hide hsn
            clear hsn he
            go_wp2_with (first
              | (at_builtin
                 refine wpList_append_any _ rfl (.tmp 38) (.tmp 42) _ rfl w0.heap.size 57 j0 _ 2 32 Try.underlying55 hj hy0 hy1 hy2 rfl (by omega) _ lk.length _ rfl ((unhide HRW).alloc _) _ _ 1 1 _ rfl (RdV.of_own (base := 0) (size := 2) (World.ownsRow_lit wr #[.int .i64 k, .slice A3 (atN f k ws).length c3] 1 (Nat.zero_le _) (by simp [maxLen]) rfl)) rfl (by intro u hu; simp at hu; rcases hu with rfl | rfl <;> rfl) (by simp only [maxLen]; omega) (by omega) (by simp; omega) ?_
                 intro A11 c11 w11 hown11 hg11 hat11 hbel11 hcc11
                 have HVP := hide (rvers_push (nd := (k : Int)) (vs := atN f k ws) (unhide HRW) (unhide HVR) (unhide HNW) hg11)
                 have HO11 := hide hown11
                 have HB11 := hide (((unhide HBW).alloc hs0r (.cells #[.int .i64 k, .slice A3 (atN f k ws).length c3] 57)).trans hbel11)
                 clear hown11 hg11 hat11 hbel11 hcc11))
            go_roundw
            case rel =>
              refine ⟨k + 1, A11, c11, lk ++ [⟨(k : Int), atN f k ws, A3, c3⟩], by omega, by go_num, by simp, ?_, ?_, unhide HVP, unhide HB11⟩
              · rw [unhide HSN, List.map_append, unhide HSH]
                rfl
              · rw [List.length_append, srow_app]
                exact unhide HO11
            case measure => simp [intOf]; omega
    · obtain rfl : k = 4 := by omega
      rw [show ((4 : Nat) : Int) = 4 from rfl]
      go_wp2_with fail
      go_ret
      have hsz2 : w.heap.size ≤ w0.heap.size := (unhide HB0).size
      exact ⟨A2, c2, lk, rfl, unhide HSH, own_more (unhide HO) (fun k hk => Nat.le_trans hsz2 ((unhide HO).lt k hk).1), fun s hs => own_more (unhide HV s hs) (fun k hk => Nat.le_trans hsz2 ((unhide HV s hs).lt k hk).1), (unhide HB0).trans ((unhide HB).mono hsz2)⟩
end Go.Proofs.Ytcljendidhfobaa
