/- coord.Shares. -/
import Derived.Test.YtcljendidhfobaaCoMap
import Derived.Test.YtcljendidhfobaaCoLawC
namespace Go.Proofs.Ytcljendidhfobaa
set_option linter.unusedVariables false
open Go.RowKit

/-- the writes of one node -/
def atN (f : Vr → Int) (n : Nat) (ws : List Vr) : List Vr := ws.filter fun v => f v == (n : Int)
/-- the shares of the nodes below k -/
def shTo (f : Vr → Int) (ws : List Vr) : Nat → List Sh
  | 0 => []
  | k + 1 => shTo f ws k ++ (if (atN f k ws).length = 0 then [] else [((k : Int), atN f k ws)])
theorem shTo_none {f : Vr → Int} {ws : List Vr} {k : Nat} (h : (atN f k ws).length = 0) : shTo f ws (k + 1) = shTo f ws k := by
  show shTo f ws k ++ _ = _
  rw [if_pos h, List.append_nil]
theorem shTo_some {f : Vr → Int} {ws : List Vr} {k : Nat} (h : (atN f k ws).length ≠ 0) : shTo f ws (k + 1) = shTo f ws k ++ [((k : Int), atN f k ws)] := by
  show shTo f ws k ++ _ = _
  rw [if_neg h]
theorem shTo_len (f : Vr → Int) (ws : List Vr) : ∀ k, (shTo f ws k).length ≤ k
  | 0 => by simp [shTo]
  | k + 1 => by
    have := shTo_len f ws k
    by_cases h : (atN f k ws).length = 0
    · rw [shTo_none h]; omega
    · rw [shTo_some h, List.length_append]; simp; omega
theorem atN_succ (f : Vr → Int) (n : Nat) {ws : List Vr} {j : Nat} {v : Vr} (h : ws[j]? = some v) : atN f n (ws.take (j + 1)) = atN f n (ws.take j) ++ (if f v = (n : Int) then [v] else []) := by
  unfold atN
  rw [List.take_add_one, h, List.filter_append]
  congr 1
  show List.filter _ [v] = _
  rw [List.filter_cons]
  by_cases hv : f v = (n : Int)
  · rw [if_pos (beq_iff_eq.2 hv), if_pos hv]; rfl
  · rw [if_neg (by simpa using hv), if_neg hv]; rfl
theorem atN_le (f : Vr → Int) (n : Nat) (ws : List Vr) (j : Nat) : (atN f n (ws.take j)).length ≤ ws.length := by
  have := List.length_filter_le (fun v => f v == (n : Int)) (ws.take j)
  rw [List.length_take] at this
  unfold atN
  omega
def ownV (m : Mp) (v : Vr) : Int := ownM m v.key
set_option maxHeartbeats 16000000 in
set_option maxRecDepth 20000 in
theorem shares_any (m : Mp) (A : Option Addr) (c B : Nat) (ws : List Vr) (w : World) (h : m.Ok w B) (hB : B ≤ w.heap.size) (hr : RdV w B A (vrow ws)) (hl : m.cuts.length ≤ 1000) (hw : ws.length ≤ 1000) :
    Calls Try.prog 18 #[.agg #[.slice m.A m.cuts.length m.c, .slice m.A2 m.nodes.length m.c2], .slice A ws.length c] w fun e w' => ∃ (A2 : Option Addr) (c2 : Nat) (lk : List Sq), e = .returned (.slice A2 lk.length c2) ∧ lk.map Sq.sh = shTo (ownV m) ws 4 ∧ w'.ownsRow w.heap.size 28 2 (.slice A2 lk.length c2) lk.length (srow lk) ∧
      (∀ s ∈ lk, w'.ownsRow w.heap.size 33 6 (.slice s.A s.vs.length s.c) s.vs.length (vrow s.vs)) ∧ Below w.heap.size w w' := by
  obtain ⟨i0, hi, hz0, hz1, hz2⟩ := info_parts verinfo
  obtain ⟨j0, hj, hy0, hy1, hy2⟩ := info_parts shinfo
  have hb0 : Below w.heap.size w (w.alloc (.cells #[.slice m.A m.cuts.length m.c, .slice m.A2 m.nodes.length m.c2] 53)) := (Below.refl _ _).alloc (Nat.le_refl _) _
  have hq0 : Blk (w.alloc (.cells #[.slice m.A m.cuts.length m.c, .slice m.A2 m.nodes.length m.c2] 53)) w.heap.size 53 #[.slice m.A m.cuts.length m.c, .slice m.A2 m.nodes.length m.c2] := Blk.new _ _ _
  have hok := (h.more hB).below hb0
  have hrd := (hr.more hB).below hb0
  obtain ⟨w0, hw0⟩ : ∃ u, w.alloc (.cells #[.slice m.A m.cuts.length m.c, .slice m.A2 m.nodes.length m.c2] 53) = u := ⟨_, rfl⟩
  rw [hw0] at hb0 hq0 hok hrd
  have HOK := hide hok; have HRD := hide hrd; have HQ0 := hide hq0; have HB0 := hide hb0
  have hg0 := hq0.lt
  clear h hr hok hrd hb0 hq0
  obtain ⟨f, hf⟩ : ∃ f, ownV m = f := ⟨_, rfl⟩
  have HF := hide hf
  rw [hf]
  clear hf
  go_enter Try.func18, Try.ntmps18
  go_wp2_with fail
  go_loopw [5, 10] (fun ov nv wr => ∃ (k : Nat) (A2 : Option Addr) (c2 : Nat) (lk : List Sq), k ≤ 4 ∧ nv = .int .i64 k ∧ ov = .slice A2 lk.length c2 ∧ lk.map Sq.sh = shTo f ws k ∧ wr.ownsRow w0.heap.size 28 2 (.slice A2 lk.length c2) lk.length (srow lk) ∧ (∀ s ∈ lk, wr.ownsRow w0.heap.size 33 6 (.slice s.A s.vs.length s.c) s.vs.length (vrow s.vs)) ∧ Below w0.heap.size w0 wr) (fun _ nv _ => 4 - (intOf nv).toNat)
  case atStart => exact ⟨0, none, 0, [], by omega, rfl, rfl, rfl, own_nil _ _ _ _, fun s hs => absurd hs (by simp), Below.refl _ _⟩
  case round =>
    obtain ⟨k, A2, c2, lk, hk, rfl, rfl, hsh, hown, hvers, hb⟩ := hrel
    have HB := hide hb; have HO := hide hown; have HV := hide hvers; have HSH := hide hsh
    have hsz := hb.size
    have hlk : lk.length ≤ 4 := by
      have h1 := shTo_len f ws k
      have h2 := congrArg List.length hsh
      rw [List.length_map] at h2
      omega
    clear hb hown hvers hsh
    by_cases hlt : k < 4
    · have hltz : (k : Int) < 4 := by omega
      obtain ⟨wo, hwo⟩ : ∃ u, u = wr := ⟨_, rfl⟩
      subst hwo
      go_wp2_with fail
      have hb5 : Below wo.heap.size wo (wo.alloc (.cells #[.int .i64 k, .slice none 0 0] 28)) := (Below.refl _ _).alloc (Nat.le_refl _) _
      have hq5 : Blk (wo.alloc (.cells #[.int .i64 k, .slice none 0 0] 28)) wo.heap.size 28 #[.int .i64 k, .slice none 0 0] := Blk.new _ _ _
      obtain ⟨w5, hw5⟩ : ∃ u, wo.alloc (.cells #[.int .i64 k, .slice none 0 0] 28) = u := ⟨_, rfl⟩
      rw [hw5] at hb5 hq5 ⊢
      have HB5 := hide ((unhide HB).trans (hb5.mono hsz))
      have hs5 : w0.heap.size ≤ w5.heap.size := (unhide HB5).size
      have hsb := hq5.lt
      have HQ5 := hide hq5
      have HBO5 := hide hb5
      have hsbo : w0.heap.size ≤ wo.heap.size := hsz
      obtain ⟨sb, hsb2⟩ : ∃ u, wo.heap.size = u := ⟨_, rfl⟩
      rw [hsb2] at HQ5 HBO5 hsb hsbo ⊢
      have HSB := hide hsb2
      clear hb5 hq5 hw5 hsb2
      go_loopw [17] (fun jv wq => ∃ (j : Nat) (A3 : Option Addr) (c3 : Nat), j ≤ ws.length ∧ jv = .int .i64 j ∧ Blk wq sb 28 #[.int .i64 k, .slice A3 (atN f k (ws.take j)).length c3] ∧ wq.ownsRow w5.heap.size 33 6 (.slice A3 (atN f k (ws.take j)).length c3) (atN f k (ws.take j)).length (vrow (atN f k (ws.take j))) ∧ Only (fun b => b = sb ∨ w5.heap.size ≤ b) w5 wq) (fun jv _ => ws.length - (intOf jv).toNat)
      case atStart => exact ⟨0, none, 0, by omega, rfl, unhide HQ5, own_nil _ _ _ _, Only.refl _ _⟩
      case round =>
        obtain ⟨j, A3, c3, hj', rfl, hbk, hown, ho⟩ := hrel
        have HBK := hide hbk; have HOW := hide hown; have HON := hide ho
        have d0 : wr.cell? ⟨sb, 0, none⟩ = some (.int .i64 k) := hbk.cell 0
        have d1 : wr.cell? ⟨sb, 1, none⟩ = some (.slice A3 (atN f k (ws.take j)).length c3) := hbk.cell 1
        have hsr : sb < wr.heap.size := hbk.lt
        have hle := atN_le f k ws j
        have hs5r : w5.heap.size ≤ wr.heap.size := ho.size
        have hbw : Below w0.heap.size w0 wr := (unhide HB5).trans (ho.below hs5 (fun b hb => by rcases hb with rfl | hb; exact hsbo; exact Nat.le_trans hs5 hb))
        have HBW := hide hbw
        have hs0r : w0.heap.size ≤ wr.heap.size := hbw.size
        clear hbk hown ho hbw
        by_cases hjl : j < ws.length
        · obtain ⟨v, hv⟩ : ∃ v, ws[j]? = some v := ⟨ws[j], List.getElem?_eq_getElem hjl⟩
          obtain ⟨ad, hA, _, a0, a1, a2, a3, a4, a5⟩ := verAt ((unhide HRD).below ((unhide HBW).mono (Nat.le_of_lt hg0))) hv
          subst hA
          have hsu := atN_succ f k hv
          have HSU := hide hsu
          have hbq : Below wr.heap.size wr (wr.alloc (.cells #[.string v.key, .string v.val, .bool v.gone, .int .u64 v.ts, .int .i64 v.dc, .int .i64 v.tx] 33)) := (Below.refl _ _).alloc (Nat.le_refl _) _
          have hqq : Blk (wr.alloc (.cells #[.string v.key, .string v.val, .bool v.gone, .int .u64 v.ts, .int .i64 v.dc, .int .i64 v.tx] 33)) wr.heap.size 33 #[.string v.key, .string v.val, .bool v.gone, .int .u64 v.ts, .int .i64 v.dc, .int .i64 v.tx] := Blk.new _ _ _
          have hfv : ownM m v.key = f v := by rw [← unhide HF]; rfl
          have HFV := hide hfv
          obtain ⟨ky, vl, g, ts, dc, tx⟩ := v
          simp only at a0 a1 a2 a3 a4 a5 hbq hqq HFV
          have hq0r : Blk wr w.heap.size 53 #[.slice m.A m.cuts.length m.c, .slice m.A2 m.nodes.length m.c2] := (unhide HQ0).below (unhide HBW) hg0
          have m0 : wr.cell? ⟨w.heap.size, 0, none⟩ = some (.slice m.A m.cuts.length m.c) := hq0r.cell 0
          have m1 : wr.cell? ⟨w.heap.size, 1, none⟩ = some (.slice m.A2 m.nodes.length m.c2) := hq0r.cell 1
          have hgr : w.heap.size < wr.heap.size := hq0r.lt
          clear hv hsu hfv hq0r
          obtain ⟨w6, hw6⟩ : ∃ u, wr.alloc (.cells #[.string ky, .string vl, .bool g, .int .u64 ts, .int .i64 dc, .int .i64 tx] 33) = u := ⟨_, rfl⟩
          rw [hw6] at hbq hqq
          have hok6 : m.Ok w6 w.heap.size := ((unhide HOK).below ((unhide HBW).mono (Nat.le_of_lt hg0))).below (hbq.mono (Nat.le_of_lt hgr))
          have HOWN := hide (owner_key m ky w.heap.size w6 hok6 (Nat.le_trans (Nat.le_of_lt hgr) hbq.size) hl)
          obtain ⟨o, hoo⟩ : ∃ o, f ⟨ky, vl, g, ts, dc, tx⟩ = o := ⟨_, rfl⟩
          rw [unhide HFV, hoo] at HOWN
          rw [hoo] at HSU
          have HBQ := hide hbq; have HQQ := hide hqq
          have hs6 : wr.heap.size ≤ w6.heap.size := hbq.size
          have m06 : w6.cell? ⟨w.heap.size, 0, none⟩ = some (.slice m.A m.cuts.length m.c) := (hbq.cell (p := ⟨w.heap.size, 0, none⟩) hgr).trans m0
          have m16 : w6.cell? ⟨w.heap.size, 1, none⟩ = some (.slice m.A2 m.nodes.length m.c2) := (hbq.cell (p := ⟨w.heap.size, 1, none⟩) hgr).trans m1
          have v06 : w6.cell? ⟨wr.heap.size, 0, none⟩ = some (.string ky) := hqq.cell 0
          have hgr6 : w.heap.size < w6.heap.size := Nat.lt_of_lt_of_le hgr hs6
          have hvl6 : wr.heap.size < w6.heap.size := hqq.lt
          clear hbq hqq hok6 hoo HFV
          by_cases hfk : o = (k : Int)
          · have g1 : (o == (k : Int)) = true := beq_iff_eq.2 hfk
            have hsu2 := unhide HSU
            rw [if_pos hfk] at hsu2
            have HS2 := hide hsu2
            clear hfk hsu2
            go_wp2_with (first
              | (go_at_call 20; refine (unhide HOWN).mono ?_; rintro _ w7 ⟨rfl, hb7⟩
                 have hb67 := (unhide HBQ).trans (hb7.mono hs6)
                 have hk7 := (unhide HBK).below hb67 hsr
                 have hv7 := (unhide HQQ).below hb7 (unhide HQQ).lt
                 have d07 : w7.cell? ⟨sb, 0, none⟩ = some (.int .i64 k) := hk7.cell 0
                 have d17 : w7.cell? ⟨sb, 1, none⟩ = some (.slice A3 (atN f k (ws.take j)).length c3) := hk7.cell 1
                 have hs7 : sb < w7.heap.size := hk7.lt
                 have v0 : w7.cell? ⟨wr.heap.size, 0, none⟩ = some (.string ky) := hv7.cell 0
                 have v1 : w7.cell? ⟨wr.heap.size, 1, none⟩ = some (.string vl) := hv7.cell 1
                 have v2 : w7.cell? ⟨wr.heap.size, 2, none⟩ = some (.bool g) := hv7.cell 2
                 have v3 : w7.cell? ⟨wr.heap.size, 3, none⟩ = some (.int .u64 ts) := hv7.cell 3
                 have v4 : w7.cell? ⟨wr.heap.size, 4, none⟩ = some (.int .i64 dc) := hv7.cell 4
                 have v5 : w7.cell? ⟨wr.heap.size, 5, none⟩ = some (.int .i64 tx) := hv7.cell 5
                 have hvl7 : wr.heap.size < w7.heap.size := hv7.lt
                 have HK7 := hide hk7; have HB67 := hide hb67
                 have HO7 := hide (own_below (unhide HOW) hb67 (fun g hg => ((unhide HOW).lt g hg).2))
                 have hs57 : w5.heap.size ≤ w7.heap.size := Nat.le_trans hs5r hb67.size
                 clear hb67 hk7 hv7 hb7)
              | (at_builtin
                 refine wpList_append_any _ rfl (.tmp 28) (.tmp 30) _ rfl w5.heap.size 33 i0 _ 6 64 Try.underlying26 hi hz0 hz1 hz2 rfl (by omega) _ (atN f k (ws.take j)).length _ rfl ((unhide HO7).alloc _) _ _ 1 1 _ rfl (RdV.of_own (base := 0) (size := 6) (World.ownsRow_lit w7 #[.string ky, .string vl, .bool g, .int .u64 ts, .int .i64 dc, .int .i64 tx] 1 (Nat.zero_le _) (by simp [maxLen]) rfl)) rfl (by intro u hu; simp at hu; rcases hu with rfl | rfl | rfl | rfl | rfl | rfl <;> rfl) (by simp only [maxLen]; omega) (by omega) (by simp; omega) ?_
                 intro A9 c9 w9 hown9 hg9 hat9 hbel9 hcc9
                 have hk9 := ((unhide HK7).alloc (.cells #[.string ky, .string vl, .bool g, .int .u64 ts, .int .i64 dc, .int .i64 tx] 33)).grown hg9 (fun e => by
                   obtain ⟨cur, hb⟩ := own_blk (unhide HO7) e.symm
                   exact absurd (blk_type (unhide HK7) hb) (by decide))
                 have fz9 := hk9.frozen 1
                 have d19 : w9.cell? ⟨sb, 1, none⟩ = some (.slice A3 (atN f k (ws.take j)).length c3) := hk9.cell 1
                 have hs9 : sb < w9.heap.size := hk9.lt
                 have ho9 : Only (fun b => b = sb ∨ w5.heap.size ≤ b) wr w9 := ((Only.of_new (unhide HB67)).trans (Only.of_new ((Below.refl _ w7).alloc (Nat.le_refl _) (.cells #[.string ky, .string vl, .bool g, .int .u64 ts, .int .i64 dc, .int .i64 tx] 33)))).trans (Only.of_grown hg9 (fun b hb => .inr ((unhide HO7).lt b hb).1))
                 have HO9 := hide hown9; have HON9 := hide ((unhide HON).trans ho9); have HK9 := hide hk9
                 clear hown9 hg9 hat9 hbel9 hcc9 hk9 ho9))
            refine ⟨⟨j + 1, A9, c9, by omega, by go_num, ?_, ?_, Only.setCell (S := fun b => b = sb ∨ w5.heap.size ≤ b) (p := ⟨sb, 1, none⟩) (unhide HON9) (.inl rfl) _⟩, by simp [intOf]; omega⟩
            · have h1 := (unhide HK9).set_ 1 (.slice A9 ((atN f k (ws.take j)).length + 1) c9)
              rw [show (atN f k (ws.take (j + 1))).length = (atN f k (ws.take j)).length + 1 by rw [unhide HS2, List.length_append]; rfl]
              exact h1
            · rw [show (atN f k (ws.take (j + 1))).length = (atN f k (ws.take j)).length + 1 by rw [unhide HS2, List.length_append]; rfl, unhide HS2, vrow_app]
              refine own_only (unhide HO9) (Only.setCell (S := fun b => b = sb) (p := ⟨sb, 1, none⟩) (Only.refl _ _) rfl _) fun b hb e => ?_
              subst e
              obtain ⟨cur, hb2⟩ := own_blk (unhide HO9) hb
              exact absurd (blk_type (unhide HK9) hb2) (by decide)
          · have g1 : (o == (k : Int)) = false := beq_eq_false_iff_ne.2 hfk
            have hsu2 := unhide HSU
            rw [if_neg hfk, List.append_nil] at hsu2
            have HS2 := hide hsu2
            clear hfk hsu2
            go_wp2_with (first
              | (go_at_call 20; refine (unhide HOWN).mono ?_; rintro _ w7 ⟨rfl, hb7⟩
                 have HB67 := hide ((unhide HBQ).trans (hb7.mono hs6))
                 clear hb7))
            refine ⟨⟨j + 1, A3, c3, by omega, by go_num, ?_, ?_, (unhide HON).trans (Only.of_new (unhide HB67))⟩, by simp [intOf]; omega⟩
            · rw [unhide HS2]; exact (unhide HBK).below (unhide HB67) hsr
            · rw [unhide HS2]; exact own_below (unhide HOW) (unhide HB67) (fun g hg => ((unhide HOW).lt g hg).2)
        · obtain rfl : j = ws.length := by omega
          rw [List.take_length] at d1 HBK HOW hle
          have hsh5 : ∀ g, g < sb → w5.heap.size ≤ wr.heap.size := fun _ _ => hs5r
          have hrow : wr.ownsRow w0.heap.size 28 2 (.slice A2 lk.length c2) lk.length (srow lk) := own_only (own_below (unhide HO) (unhide HBO5) (fun g hg => by rw [← unhide HSB]; exact ((unhide HO).lt g hg).2)) (unhide HON) (fun g hg h => by
            have h1 := ((unhide HO).lt g hg).2
            rw [unhide HSB] at h1
            rcases h with h | h <;> omega)
          have hver : ∀ s ∈ lk, wr.ownsRow w0.heap.size 33 6 (.slice s.A s.vs.length s.c) s.vs.length (vrow s.vs) := fun s hs => own_only (own_below (unhide HV s hs) (unhide HBO5) (fun g hg => by rw [← unhide HSB]; exact ((unhide HV s hs).lt g hg).2)) (unhide HON) (fun g hg h => by
            have h1 := ((unhide HV s hs).lt g hg).2
            rw [unhide HSB] at h1
            rcases h with h | h <;> omega)
          have HRW := hide hrow; have HVR := hide hver
          have HNW := hide (own_more (unhide HOW) (fun g hg => Nat.le_trans hs5 ((unhide HOW).lt g hg).1) : wr.ownsRow w0.heap.size 33 6 (.slice A3 (atN f k ws).length c3) (atN f k ws).length (vrow (atN f k ws)))
          clear hrow hver
          by_cases he : (atN f k ws).length = 0
          · have hsn := shTo_none he
            have g1 : decide ((0 : Int) < ((atN f k ws).length : Int)) = false := decide_eq_false (by omega)
            have g2 : ¬ (0 : Int) < ((atN f k ws).length : Int) := by omega
            have g3 : ¬ 0 < (atN f k ws).length := by omega
            have HSN := hide hsn
            clear hsn he
            go_wp2_with fail
            go_roundw
            case rel => exact ⟨k + 1, A2, c2, lk, by omega, by go_num, rfl, by rw [unhide HSN]; exact unhide HSH, unhide HRW, unhide HVR, unhide HBW⟩
            case measure => simp [intOf]; omega
          · have hsn := shTo_some he
            have g1 : decide ((0 : Int) < ((atN f k ws).length : Int)) = true := decide_eq_true (by omega)
            have g2 : (0 : Int) < ((atN f k ws).length : Int) := by omega
            have g3 : 0 < (atN f k ws).length := by omega
            have HSN := hide hsn
            clear hsn he
            go_wp2_with (first
              | (at_builtin
                 refine wpList_append_any _ rfl (.tmp 38) (.tmp 40) _ rfl w0.heap.size 28 j0 _ 2 32 Try.underlying22 hj hy0 hy1 hy2 rfl (by omega) _ lk.length _ rfl ((unhide HRW).alloc _) _ _ 1 1 _ rfl (RdV.of_own (base := 0) (size := 2) (World.ownsRow_lit wr #[.int .i64 k, .slice A3 (atN f k ws).length c3] 1 (Nat.zero_le _) (by simp [maxLen]) rfl)) rfl (by intro u hu; simp at hu; rcases hu with rfl | rfl <;> rfl) (by simp only [maxLen]; omega) (by omega) (by simp; omega) ?_
                 intro A11 c11 w11 hown11 hg11 hat11 hbel11 hcc11
                 have HVP := hide (vers_push (nd := (k : Int)) (vs := atN f k ws) (unhide HRW) (unhide HVR) (unhide HNW) hg11)
                 have HO11 := hide hown11
                 have HB11 := hide (((unhide HBW).alloc hs0r (.cells #[.int .i64 k, .slice A3 (atN f k ws).length c3] 28)).trans hbel11)
                 clear hown11 hg11 hat11 hbel11 hcc11))
            go_roundw
            case rel =>
              refine ⟨k + 1, A11, c11, lk ++ [⟨(k : Int), atN f k ws, A3, c3⟩], by omega, by go_num, by simp, ?_, ?_, unhide HVP, unhide HB11⟩
              · rw [unhide HSN, List.map_append, unhide HSH]
                rfl
              · rw [List.length_append, srow_app]
                exact unhide HO11
            case measure => simp [intOf]; omega
    · obtain rfl : k = 4 := by omega
      rw [show ((4 : Nat) : Int) = 4 from rfl]
      go_wp2_with fail
      go_ret
      have hsz2 : w.heap.size ≤ w0.heap.size := (unhide HB0).size
      exact ⟨A2, c2, lk, rfl, unhide HSH, own_more (unhide HO) (fun k hk => Nat.le_trans hsz2 ((unhide HO).lt k hk).1), fun s hs => own_more (unhide HV s hs) (fun k hk => Nat.le_trans hsz2 ((unhide HV s hs).lt k hk).1), (unhide HB0).trans ((unhide HB).mono hsz2)⟩
end Go.Proofs.Ytcljendidhfobaa
