/- Twice and Back, where they put a packet behind a way. -/
import Derived.Test.YtbclfiollfagmaaNetMoves
namespace Go.Proofs.Ytbclfiollfagmaa
set_option linter.unusedVariables false
open Go.RowKit

set_option maxHeartbeats 1000000 in
set_option maxRecDepth 20000 in
theorem twice_full (B p : Nat) (s : NS) (a b k : Nat) (x : Pk) (w : World) (h : NetAt w B p s) (ha : a ≤ 20) (hb : b ≤ 20) (hab : a ≠ b) (hx : (s.ways (a * 21 + b)).ps[k]? = some x) (hn : 48 ≤ (s.ways (a * 21 + b)).ps.length) :
    Calls Try.prog 14 #[.pointer (some ⟨p, 0, none⟩), .int .i64 (a : Int), .int .i64 (b : Int), .int .i64 (k : Int)] w (ErrN w 9) := by
  have HL := hide (look_yes B p s a b k x w h ha hb hab hx)
  have hlt : a * 21 + b < 441 := by omega
  have HN := hide h
  have HM0 := hide (Mem.start w)
  have g1 : decide ((48 : Int) ≤ ((s.ways (a * 21 + b)).ps.length : Int)) = true := decide_eq_true (by omega)
  have hi0 : (0 : Int) ≤ (a : Int) := by omega
  have hi1 : (a : Int) < 21 := by omega
  have hi2 : (0 : Int) ≤ (b : Int) := by omega
  have hi3 : (b : Int) < 21 := by omega
  clear h hab hx hn
  go_enter Try.func14, Try.ntmps14
  go_upto_region 4 with (first
    | (go_at_call 17; refine (unhide HL).mono ?_; rintro _ w2 ⟨A2, c2, rfl, ho2, hb2⟩; have HM1 := hide ((unhide HM0).called hb2); have HM2 := hide ((unhide HM1).new (t := 36) (cs := #[.slice none 0 0, .bool false]) w2.heap.size rfl); clear ho2 hb2)
    | (refine wpList_store_blk rfl 36 (.tmp 9) (.tmp 17) rfl (w2.heap.size) _ (by rfl) (by rfl) 36 _ (unhide HM2).blk0 (by kernel_rfl) (by rfl) (by simp [Value.oneCell']) ?_; intro w3 hbS hgS; have HM3 := hide ((unhide HM2).grown0 hbS hgS); have HGw3 := hide hgS; clear hbS hgS))
  have fc3 : w3.cell? ⟨p, a * 21 + b, none⟩ = some (.slice (s.ways (a * 21 + b)).A (s.ways (a * 21 + b)).ps.length (s.ways (a * 21 + b)).c) := ((unhide HN).new (unhide HM3).below).cell hlt
  go_wp2_with fail
  go_ret
  exact ⟨rfl, (unhide HM3).below⟩
def PutP (w : World) (B p : Nat) (s s3 : NS) (i : Nat) (l : List UInt8) (sp : Bool) (e : Ending) (w' : World) : Prop := e = .returned (.int .i64 0) ∧ ∃ A4 c4 A2 c2, NStep w w' B p s (s3.put i ⟨A4, c4, (s3.ways i).ps ++ [((l, A2, c2), sp)]⟩)
set_option maxHeartbeats 1000000 in
set_option maxRecDepth 20000 in
theorem twice_ok (B p : Nat) (s : NS) (a b k : Nat) (x : Pk) (w : World) (h : NetAt w B p s) (ha : a ≤ 20) (hb : b ≤ 20) (hab : a ≠ b) (hx : (s.ways (a * 21 + b)).ps[k]? = some x) (hn : (s.ways (a * 21 + b)).ps.length < 48) :
    Calls Try.prog 14 #[.pointer (some ⟨p, 0, none⟩), .int .i64 (a : Int), .int .i64 (b : Int), .int .i64 (k : Int)] w (PutP w B p s s (a * 21 + b) x.1.1 x.2) := by
  have HL := hide (look_yes B p s a b k x w h ha hb hab hx)
  have hlt : a * 21 + b < 441 := by omega
  have HN := hide h
  have HM0 := hide (Mem.start w)
  have HBS : Hid (B ≤ w.heap.size) := hide (Nat.le_of_lt (Nat.lt_of_le_of_lt h.ge h.blk.lt))
  have HSM := hide (h.small _ k x hlt hx)
  have HRM := hide hn
  have g1 : decide ((48 : Int) ≤ ((s.ways (a * 21 + b)).ps.length : Int)) = false := decide_eq_false (by omega)
  have hi0 : (0 : Int) ≤ (a : Int) := by omega
  have hi1 : (a : Int) < 21 := by omega
  have hi2 : (0 : Int) ≤ (b : Int) := by omega
  have hi3 : (b : Int) < 21 := by omega
  clear h hab hx hn
  go_enter Try.func14, Try.ntmps14
  go_upto_region 4 with (first
    | (go_at_call 17; refine (unhide HL).mono ?_; rintro _ w2 ⟨A2, c2, rfl, ho2, hb2⟩; have HO2 := hide (ho2.alloc (.cells #[.slice none 0 0, .bool false] 36)); have HOL := hide (fun k hk => (ho2.lt k hk).2); have HM1 := hide ((unhide HM0).called hb2); have HM2 := hide ((unhide HM1).new (t := 36) (cs := #[.slice none 0 0, .bool false]) w2.heap.size rfl); clear ho2 hb2)
    | (refine wpList_store_blk rfl 36 (.tmp 9) (.tmp 17) rfl (w2.heap.size) _ (by rfl) (by rfl) 36 _ (unhide HM2).blk0 (by kernel_rfl) (by rfl) (by simp [Value.oneCell']) ?_; intro w3 hbS hgS; have HM3 := hide ((unhide HM2).grown0 hbS hgS); have HGw3 := hide hgS; clear hbS hgS))
  have HRD : Hid (Ready w w3 B p s s (a * 21 + b) 0 ((x.1.1, A2, c2), x.2)) := hide ⟨NStep.of_new (unhide HN) (unhide HM3).below, (unhide HO2).kept (unhide HGw3) (.inr fun e => Nat.lt_irrefl _ ((unhide HOL) _ e)), fun g hg hf => by
    have h1 := ((unhide HO2).lt g hg).1
    have h2 := ((unhide HN).foot hf).2
    omega, unhide HSM, unhide HRM⟩
  have fq3 : w3.cell? ⟨p, a * 21 + b, none⟩ = some (.slice (s.ways (a * 21 + b)).A (s.ways (a * 21 + b)).ps.length (s.ways (a * 21 + b)).c) := ((unhide HN).new (unhide HM3).below).cell hlt
  go_upto_region 6 with fail
  clear fq3
  obtain ⟨j0, hj, hy0, hy1, hy2⟩ := info_parts pkinfo
  have hfp := pkAt (unhide HM3).blk0
  have fp0 := hfp.1; have fp1 := hfp.2; clear hfp
  have hn3 := (unhide HRD).step.at_
  have hBs : B ≤ w.heap.size := unhide HBS
  have fc3 : w3.cell? ⟨p, a * 21 + b, none⟩ = some (.slice (s.ways (a * 21 + b)).A (s.ways (a * 21 + b)).ps.length (s.ways (a * 21 + b)).c) := hn3.cell hlt
  have HS : Hid ((w3.alloc (.cells #[.slice A2 x.1.1.length c2, .bool x.2] 36)).drew.ownsRow B 36 2 (.slice (s.ways (a * 21 + b)).A (s.ways (a * 21 + b)).ps.length (s.ways (a * 21 + b)).c) (s.ways (a * 21 + b)).ps.length (pkCells (s.ways (a * 21 + b)).ps)) := hide (own_drewN ((hn3.row _ hlt).alloc _) 1)
  have hroom : (s.ways (a * 21 + b)).ps.length < 48 := (unhide HRD).room
  have hB3 : B ≤ w3.heap.size := Nat.le_trans hBs (unhide HRD).step.only.size
  have HPB := hide (hn3.blk.alloc (.cells #[.slice A2 x.1.1.length c2, .bool x.2] 36))
  have HPR := hide (hn3.pr hlt)
  have fd3 : (w3.alloc (.cells #[.slice A2 x.1.1.length c2, .bool x.2] 36)).cell? ⟨p, a * 21 + b, none⟩ = some (.slice (s.ways (a * 21 + b)).A (s.ways (a * 21 + b)).ps.length (s.ways (a * 21 + b)).c) := by rw [(hn3.blk.alloc _).cell, netCells_way _ hlt]; rfl
  clear hn3
  go_region_law (refine step_append_any _ rfl (.tmp 42) (.tmp 44) _ rfl B 36 j0 _ 2 32 Try.underlying59 hj hy0 hy1 hy2 rfl (by omega) (.slice (s.ways (a * 21 + b)).A (s.ways (a * 21 + b)).ps.length (s.ways (a * 21 + b)).c) (s.ways (a * 21 + b)).ps.length _ (by first | (with_reducible rfl) | go_simp) (unhide HS) _ (some ⟨w3.heap.size, 0, none⟩) 1 1 _ (by first | (with_reducible rfl) | go_simp) (RdV.of_own (base := 0) (size := 2) (World.ownsRow_lit w3 #[.slice A2 x.1.1.length c2, .bool x.2] 1 (Nat.zero_le _) (by simp [maxLen]) rfl)) rfl (by intro u hu; simp at hu; rcases hu with rfl | rfl <;> rfl) (by simp only [maxLen]; omega) (by omega) (by simp; omega) ?_
                 intro A4 c4 w4 hown4 hg4 hat4 hbel4 hcc4
                 have HST := hide ((unhide HRD).done hBs hlt hown4 hg4 hat4)
                 have hq4 := (unhide HPB).drew.grown hg4 (fun e => unhide HPR e.symm)
                 have fc4 : w4.cell? ⟨p, a * 21 + b, none⟩ = some (.slice (s.ways (a * 21 + b)).A (s.ways (a * 21 + b)).ps.length (s.ways (a * 21 + b)).c) := (by rw [hq4.cell, netCells_way _ hlt]; rfl)
                 have fz4 := hq4.frozen (a * 21 + b); clear hown4 hg4 hat4 hbel4 hq4)
  all_goals go_wp2_with fail
  all_goals
    go_ret
    exact⟨rfl,A4,c4,A2,c2,(unhide<|HST)⟩
set_option maxHeartbeats 1000000 in
set_option maxRecDepth 20000 in
theorem back_ok (B p : Nat) (s : NS) (a b k : Nat) (x : Pk) (w : World) (h : NetAt w B p s) (ha : a ≤ 20) (hb : b ≤ 20) (hab : a ≠ b) (hx : (s.ways (a * 21 + b)).ps[k]? = some x) :
    Calls Try.prog 15 #[.pointer (some ⟨p, 0, none⟩), .int .i64 (a : Int), .int .i64 (b : Int), .int .i64 (k : Int)] w fun e w' => ∃ A3 c3 s3, s.put (a * 21 + b) ⟨A3, c3, (s.ways (a * 21 + b)).ps.eraseIdx k⟩ = s3 ∧ PutP w B p s s3 (a * 21 + b) x.1.1 x.2 e w' := by
  have HL := hide (take_yes B p s a b k x w h ha hb hab hx)
  have hlt : a * 21 + b < 441 := by omega
  have HN := hide h
  have HBS : Hid (B ≤ w.heap.size) := hide (Nat.le_of_lt (Nat.lt_of_le_of_lt h.ge h.blk.lt))
  have HSM := hide (h.small _ k x hlt hx)
  have HLE : Hid (((s.ways (a * 21 + b)).ps.eraseIdx k).length < 48) := hide (by
    have h1 := (List.getElem?_eq_some_iff.1 hx).1
    have h2 := h.few _ hlt
    rw [List.length_eraseIdx_of_lt h1]
    omega)
  have hi0 : (0 : Int) ≤ (a : Int) := by omega
  have hi1 : (a : Int) < 21 := by omega
  have hi2 : (0 : Int) ≤ (b : Int) := by omega
  have hi3 : (b : Int) < 21 := by omega
  clear h hab hx
  go_enter Try.func15, Try.ntmps15
  go_upto_region 3 with (first
    | (go_at_call 18; refine (unhide HL).mono ?_; rintro _ w2 ⟨A2, c2, A3, c3, rfl, hst, ho2⟩; have HST := hide hst; have HOO := hide ho2; have HO2 := hide (ho2.alloc (.cells #[.slice none 0 0, .bool false] 36)); have HOL := hide (fun k hk => (ho2.lt k hk).2); have HM2 := hide ((Mem.start w2).new (t := 36) (cs := #[.slice none 0 0, .bool false]) w2.heap.size rfl); clear hst ho2)
    | (refine wpList_store_blk rfl 36 (.tmp 9) (.tmp 17) rfl (w2.heap.size) _ (by rfl) (by rfl) 36 _ (unhide HM2).blk0 (by kernel_rfl) (by rfl) (by simp [Value.oneCell']) ?_; intro w3 hbS hgS; have HM3 := hide ((unhide HM2).grown0 hbS hgS); have HGw3 := hide hgS; clear hbS hgS))
  have HRD : Hid (Ready w w3 B p s (s.put (a * 21 + b) ⟨A3, c3, (s.ways (a * 21 + b)).ps.eraseIdx k⟩) (a * 21 + b) 0 ((x.1.1, A2, c2), x.2)) := hide ⟨(unhide HST).trans (NStep.of_new (unhide HST).at_ (unhide HM3).below), (unhide HO2).kept (unhide HGw3) (.inr fun e => Nat.lt_irrefl _ ((unhide HOL) _ e)), fun g hg hf => apart_dropped (unhide HN) (unhide HST).at_ (unhide HOO) hg hf, unhide HSM, by rw [NS.put_same]; exact unhide HLE⟩
  obtain ⟨s3, hs3⟩ : ∃ u, s.put (a * 21 + b) ⟨A3, c3, (s.ways (a * 21 + b)).ps.eraseIdx k⟩ = u := ⟨_, rfl⟩
  rw [hs3] at HRD
  have HE3 := hide hs3
  clear hs3 HST HO2 HOO HN
  obtain ⟨j0, hj, hy0, hy1, hy2⟩ := info_parts pkinfo
  have hfp := pkAt (unhide HM3).blk0
  have fp0 := hfp.1; have fp1 := hfp.2; clear hfp
  have hn3 := (unhide HRD).step.at_
  have hBs : B ≤ w.heap.size := unhide HBS
  have fc3 : w3.cell? ⟨p, a * 21 + b, none⟩ = some (.slice (s3.ways (a * 21 + b)).A (s3.ways (a * 21 + b)).ps.length (s3.ways (a * 21 + b)).c) := hn3.cell hlt
  have HS : Hid ((w3.alloc (.cells #[.slice A2 x.1.1.length c2, .bool x.2] 36)).drew.ownsRow B 36 2 (.slice (s3.ways (a * 21 + b)).A (s3.ways (a * 21 + b)).ps.length (s3.ways (a * 21 + b)).c) (s3.ways (a * 21 + b)).ps.length (pkCells (s3.ways (a * 21 + b)).ps)) := hide (own_drewN ((hn3.row _ hlt).alloc _) 1)
  have hroom : (s3.ways (a * 21 + b)).ps.length < 48 := (unhide HRD).room
  have hB3 : B ≤ w3.heap.size := Nat.le_trans hBs (unhide HRD).step.only.size
  have HPB := hide (hn3.blk.alloc (.cells #[.slice A2 x.1.1.length c2, .bool x.2] 36))
  have HPR := hide (hn3.pr hlt)
  have fd3 : (w3.alloc (.cells #[.slice A2 x.1.1.length c2, .bool x.2] 36)).cell? ⟨p, a * 21 + b, none⟩ = some (.slice (s3.ways (a * 21 + b)).A (s3.ways (a * 21 + b)).ps.length (s3.ways (a * 21 + b)).c) := by rw [(hn3.blk.alloc _).cell, netCells_way _ hlt]; rfl
  clear hn3
  go_region_law (refine step_append_any _ rfl (.tmp 31) (.tmp 33) _ rfl B 36 j0 _ 2 32 Try.underlying59 hj hy0 hy1 hy2 rfl (by omega) (.slice (s3.ways (a * 21 + b)).A (s3.ways (a * 21 + b)).ps.length (s3.ways (a * 21 + b)).c) (s3.ways (a * 21 + b)).ps.length _ (by first | (with_reducible rfl) | go_simp) (unhide HS) _ (some ⟨w3.heap.size, 0, none⟩) 1 1 _ (by first | (with_reducible rfl) | go_simp) (RdV.of_own (base := 0) (size := 2) (World.ownsRow_lit w3 #[.slice A2 x.1.1.length c2, .bool x.2] 1 (Nat.zero_le _) (by simp [maxLen]) rfl)) rfl (by intro u hu; simp at hu; rcases hu with rfl | rfl <;> rfl) (by simp only [maxLen]; omega) (by omega) (by simp; omega) ?_
                 intro A4 c4 w4 hown4 hg4 hat4 hbel4 hcc4
                 have HST := hide ((unhide HRD).done hBs hlt hown4 hg4 hat4)
                 have hq4 := (unhide HPB).drew.grown hg4 (fun e => unhide HPR e.symm)
                 have fc4 : w4.cell? ⟨p, a * 21 + b, none⟩ = some (.slice (s3.ways (a * 21 + b)).A (s3.ways (a * 21 + b)).ps.length (s3.ways (a * 21 + b)).c) := (by rw [hq4.cell, netCells_way _ hlt]; rfl)
                 have fz4 := hq4.frozen (a * 21 + b); clear hown4 hg4 hat4 hbel4 hq4)
  all_goals go_wp2_with fail
  all_goals
    go_ret
    exact⟨A3,c3,s3,(unhide<|HE3),rfl,A4,c4,A2,c2,(unhide<|HST)⟩
end Go.Proofs.Ytbclfiollfagmaa
