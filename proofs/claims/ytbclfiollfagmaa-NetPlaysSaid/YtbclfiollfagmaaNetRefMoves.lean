/- The document's net: Lose, Twice, Back. -/
import Derived.Test.YtbclfiollfagmaaNetRefTake
namespace Go.Proofs.Ytbclfiollfagmaa
set_option linter.unusedVariables false
open Go.RowKit

theorem dlose_bad (q : Nat) (f t i er : Int) (w : World) (hl : Calls Try.prog 31 #[.pointer (some ⟨q, 0, none⟩), .int .i64 f, .int .i64 t, .int .i64 i] w (DErr w er)) (he : er ≠ 0) :
    Calls Try.prog 32 #[.pointer (some ⟨q, 0, none⟩), .int .i64 f, .int .i64 t, .int .i64 i] w (ErrN w er) := by
  have HL := hide hl
  have f1 : (er == 0) = false := beq_eq_false_iff_ne.2 he
  have f2 : (er != 0) = true := by simp [he]
  have HM0 := hide (Mem.start w)
  clear hl he
  go_enter Try.func32, Try.ntmps32
  go_wp2_with (first
    | (go_at_call 31; refine (unhide HL).mono ?_; rintro _ w2 ⟨rfl, hb2⟩; have HM2 := hide (((unhide HM0).called hb2).new (t := 68) (cs := #[.int .i64 0, .int .i64 0, .slice none 0 0, .bool false]) w2.heap.size rfl); clear hb2)
    | (refine wpList_store_blk rfl 68 (.tmp 9) (.tmp 17) rfl (w2.heap.size) _ (by rfl) (by rfl) 68 _ (unhide HM2).blk0 (by kernel_rfl) (by rfl) (by simp [Value.oneCell']) ?_; intro w3 hbS hgS; have HM3 := hide ((unhide HM2).grown0 hbS hgS); have HGw3 := hide hgS; clear hbS hgS))
  go_ret
  exact ⟨rfl, (unhide HM3).below⟩
theorem dtwice_bad (q : Nat) (f t i er : Int) (w : World) (hl : Calls Try.prog 36 #[.pointer (some ⟨q, 0, none⟩), .int .i64 f, .int .i64 t, .int .i64 i] w (DErr w er)) (he : er ≠ 0) :
    Calls Try.prog 33 #[.pointer (some ⟨q, 0, none⟩), .int .i64 f, .int .i64 t, .int .i64 i] w (ErrN w er) := by
  have HL := hide hl
  have f1 : (er == 0) = false := beq_eq_false_iff_ne.2 he
  have f2 : (er != 0) = true := by simp [he]
  have HM0 := hide (Mem.start w)
  clear hl he
  go_enter Try.func33, Try.ntmps33
  go_wp2_with (first
    | (go_at_call 36; refine (unhide HL).mono ?_; rintro _ w2 ⟨rfl, hb2⟩; have HM2 := hide (((unhide HM0).called hb2).new (t := 68) (cs := #[.int .i64 0, .int .i64 0, .slice none 0 0, .bool false]) w2.heap.size rfl); clear hb2)
    | (refine wpList_store_blk rfl 68 (.tmp 9) (.tmp 17) rfl (w2.heap.size) _ (by rfl) (by rfl) 68 _ (unhide HM2).blk0 (by kernel_rfl) (by rfl) (by simp [Value.oneCell']) ?_; intro w3 hbS hgS; have HM3 := hide ((unhide HM2).grown0 hbS hgS); have HGw3 := hide hgS; clear hbS hgS))
  go_ret
  exact ⟨rfl, (unhide HM3).below⟩
theorem dback_bad (q : Nat) (f t i er : Int) (w : World) (hl : Calls Try.prog 31 #[.pointer (some ⟨q, 0, none⟩), .int .i64 f, .int .i64 t, .int .i64 i] w (DErr w er)) (he : er ≠ 0) :
    Calls Try.prog 34 #[.pointer (some ⟨q, 0, none⟩), .int .i64 f, .int .i64 t, .int .i64 i] w (ErrN w er) := by
  have HL := hide hl
  have f1 : (er == 0) = false := beq_eq_false_iff_ne.2 he
  have f2 : (er != 0) = true := by simp [he]
  have HM0 := hide (Mem.start w)
  clear hl he
  go_enter Try.func34, Try.ntmps34
  go_wp2_with (first
    | (go_at_call 31; refine (unhide HL).mono ?_; rintro _ w2 ⟨rfl, hb2⟩; have HM2 := hide (((unhide HM0).called hb2).new (t := 68) (cs := #[.int .i64 0, .int .i64 0, .slice none 0 0, .bool false]) w2.heap.size rfl); clear hb2)
    | (refine wpList_store_blk rfl 68 (.tmp 9) (.tmp 17) rfl (w2.heap.size) _ (by rfl) (by rfl) 68 _ (unhide HM2).blk0 (by kernel_rfl) (by rfl) (by simp [Value.oneCell']) ?_; intro w3 hbS hgS; have HM3 := hide ((unhide HM2).grown0 hbS hgS); have HGw3 := hide hgS; clear hbS hgS))
  go_ret
  exact ⟨rfl, (unhide HM3).below⟩
set_option maxHeartbeats 1000000 in
set_option maxRecDepth 20000 in
theorem dlose_yes (B q : Nat) (d : DS) (f t : Int) (pre post : List DP) (x : DP) (w : World) (h : DocAt w B q d) (hB : B ≤ w.heap.size) (hs : d.row.length ≤ 100000) (hr : Rt f t) (he : d.row = pre ++ x :: post) (hx : x.1 = (f, t)) (hl0 : 0 ≤ d.lost) (hl : d.lost ≤ 1000000) :
    Calls Try.prog 32 #[.pointer (some ⟨q, 0, none⟩), .int .i64 f, .int .i64 t, .int .i64 ((way f t pre).length : Int)] w fun e w' => e = .returned (.int .i64 0) ∧ ∃ A3 c3, DStep w w' B q d ⟨A3, c3, pre ++ post, d.lost + 1⟩ := by
  have HL := hide (dtake_yes B q d f t pre post x w h hB hs hr he hx)
  clear h hr he hx
  go_enter Try.func32, Try.ntmps32
  go_upto_region 2 with (first
    | (go_at_call 31; refine (unhide HL).mono ?_; rintro _ w2 ⟨A2, c2, A3, c3, rfl, hst, ho2⟩; have HST := hide hst; have HM2 := hide ((Mem.start w2).new (t := 68) (cs := #[.int .i64 0, .int .i64 0, .slice none 0 0, .bool false]) w2.heap.size rfl); clear hst ho2)
    | (refine wpList_store_blk rfl 68 (.tmp 9) (.tmp 17) rfl (w2.heap.size) _ (by rfl) (by rfl) 68 _ (unhide HM2).blk0 (by kernel_rfl) (by rfl) (by simp [Value.oneCell']) ?_; intro w3 hbS hgS; have HM3 := hide ((unhide HM2).grown0 hbS hgS); have HGw3 := hide hgS; clear hbS hgS))
  have hst3 := (unhide HST).trans (DStep.of_new (unhide HST).at_ (unhide HM3).below)
  have HST3 := hide hst3
  have fl : w3.cell? ⟨q, 1, none⟩ = some (.int .i64 d.lost) := hst3.at_.hdr1
  have fz := hst3.at_.blk.frozen 1
  have H := hide (hst3.at_.setLost (Nat.le_trans hB hst3.only.size) (d.lost + 1))
  clear hst3
  go_wp2_with fail
  go_ret
  exact ⟨rfl, A3, c3, (unhide HST3).trans (unhide H)⟩
set_option maxHeartbeats 1000000 in
set_option maxRecDepth 20000 in
theorem dtwice_full (B q : Nat) (d : DS) (f t : Int) (pre post : List DP) (x : DP) (w : World) (h : DocAt w B q d) (hB : B ≤ w.heap.size) (hs : d.row.length ≤ 100000) (hr : Rt f t) (he : d.row = pre ++ x :: post) (hx : x.1 = (f, t)) (hn : 48 ≤ (way f t d.row).length) :
    Calls Try.prog 33 #[.pointer (some ⟨q, 0, none⟩), .int .i64 f, .int .i64 t, .int .i64 ((way f t pre).length : Int)] w (ErrN w 9) := by
  have HL := hide (dlook_yes B q d f t pre post x w h hB hs hr he hx)
  have HM0 := hide (Mem.start w)
  have HN := hide (fun u (hu : Below w.heap.size w u) => dlen_any B q d f t u (h.new hu) hs)
  have g1 : decide ((48 : Int) ≤ ((way f t d.row).length : Int)) = true := decide_eq_true (by omega)
  clear h hr he hx hn
  go_enter Try.func33, Try.ntmps33
  go_wp2_with (first
    | (go_at_call 36; refine (unhide HL).mono ?_; rintro _ w2 ⟨A2, c2, rfl, ho2, hb2⟩; have HM2 := hide (((unhide HM0).called hb2).new (t := 68) (cs := #[.int .i64 0, .int .i64 0, .slice none 0 0, .bool false]) w2.heap.size rfl); clear ho2 hb2)
    | (refine wpList_store_blk rfl 68 (.tmp 9) (.tmp 17) rfl (w2.heap.size) _ (by rfl) (by rfl) 68 _ (unhide HM2).blk0 (by kernel_rfl) (by rfl) (by simp [Value.oneCell']) ?_; intro w3 hbS hgS; have HM3 := hide ((unhide HM2).grown0 hbS hgS); have HGw3 := hide hgS; clear hbS hgS)
    | (go_at_call 22; refine (unhide HN _ (unhide HM3).below).mono ?_; rintro _ w4 ⟨rfl, rfl⟩))
  go_ret
  exact ⟨rfl, (unhide HM3).below⟩
theorem dpkAt {w : World} {g : Nat} {ty : TypeId} {a b : Int} {v : Value} {sp : Bool} (h : Blk w g ty #[.int .i64 a, .int .i64 b, v, .bool sp]) : w.cell? ⟨g, 0, none⟩ = some (.int .i64 a) ∧ w.cell? ⟨g, 1, none⟩ = some (.int .i64 b) ∧ w.cell? ⟨g, 2, none⟩ = some v ∧ w.cell? ⟨g, 3, none⟩ = some (.bool sp) := ⟨h.cell 0, h.cell 1, h.cell 2, h.cell 3⟩
theorem DStep.drew {w w' : World} {B q : Nat} {d d' : DS} (h : DStep w w' B q d d') : DStep w w'.drew B q d d' := ⟨⟨h.at_.blk.drew, own_drewN h.at_.row 1, fun x hx => own_drewN (h.at_.body x hx) 1, h.at_.ge, h.at_.small⟩, h.only.drew, h.foot⟩
def DPut (w : World) (B q : Nat) (d : DS) (r : List DP) (x : DP) (e : Ending) (w' : World) : Prop := e = .returned (.int .i64 0) ∧ ∃ A4 c4 A2 c2, DStep w w' B q d ⟨A4, c4, r ++ [(x.1, ((x.2.1.1, A2, c2), x.2.2))], d.lost⟩
set_option maxHeartbeats 2000000 in
set_option maxRecDepth 20000 in
theorem dtwice_ok (B q : Nat) (d : DS) (f t : Int) (pre post : List DP) (x : DP) (w : World) (h : DocAt w B q d) (hB : B ≤ w.heap.size) (hs : d.row.length ≤ 100000) (hr : Rt f t) (he : d.row = pre ++ x :: post) (hx : x.1 = (f, t)) (hn : (way f t d.row).length < 48) :
    Calls Try.prog 33 #[.pointer (some ⟨q, 0, none⟩), .int .i64 f, .int .i64 t, .int .i64 ((way f t pre).length : Int)] w (DPut w B q d d.row x) := by
  have HL := hide (dlook_yes B q d f t pre post x w h hB hs hr he hx)
  have HD := hide h
  have HSM := hide (h.small x (by rw [he]; simp))
  have HM0 := hide (Mem.start w)
  have HN := hide (fun u (hu : Below w.heap.size w u) => dlen_any B q d f t u (h.new hu) hs)
  have g1 : decide ((48 : Int) ≤ ((way f t d.row).length : Int)) = false := decide_eq_false (by omega)
  clear h hr he hx hn
  go_enter Try.func33, Try.ntmps33
  go_upto_region 5 with (first
    | (go_at_call 36; refine (unhide HL).mono ?_; rintro _ w2 ⟨A2, c2, rfl, ho2, hb2⟩; have HO2 := hide (ho2.alloc (.cells #[.int .i64 0, .int .i64 0, .slice none 0 0, .bool false] 68)); have HOL := hide (fun k hk => (ho2.lt k hk).2); have HM2 := hide (((unhide HM0).called hb2).new (t := 68) (cs := #[.int .i64 0, .int .i64 0, .slice none 0 0, .bool false]) w2.heap.size rfl); clear ho2 hb2)
    | (refine wpList_store_blk rfl 68 (.tmp 9) (.tmp 17) rfl (w2.heap.size) _ (by rfl) (by rfl) 68 _ (unhide HM2).blk0 (by kernel_rfl) (by rfl) (by simp [Value.oneCell']) ?_; intro w3 hbS hgS; have HM3 := hide ((unhide HM2).grown0 hbS hgS); have HGw3 := hide hgS; clear hbS hgS)
    | (go_at_call 22; refine (unhide HN _ (unhide HM3).below).mono ?_; rintro _ w4 ⟨rfl, rfl⟩))
  have HO3 : Hid (w3.ownsRow w.heap.size 5 1 (.slice A2 x.2.1.1.length c2) x.2.1.1.length (x.2.1.1.map Bv)) := hide ((unhide HO2).kept (unhide HGw3) (.inr fun e => Nat.lt_irrefl _ ((unhide HOL) _ e)))
  have HST3 := hide (DStep.of_new (unhide HD) (unhide HM3).below)
  obtain ⟨j0, hj, hy0, hy1, hy2⟩ := info_parts dpkinfo
  have fp := dpkAt (unhide HM3).blk0
  have hd3 := (unhide HST3).at_
  have fc3 : w3.cell? ⟨q, 0, none⟩ = some (.slice d.A d.row.length d.c) := hd3.hdr0
  have hB3 : B ≤ w3.heap.size := Nat.le_trans hB (unhide HST3).only.size
  have HPB := hide (hd3.blk.alloc (.cells #[.int .i64 x.1.1, .int .i64 x.1.2, .slice A2 x.2.1.1.length c2, .bool x.2.2] 68))
  have hqr : Hid (some q ≠ (dhdr d).ownBlock) := hide (fun e => by obtain ⟨cur, hb⟩ := own_blk hd3.row e.symm; exact absurd (blk_type hd3.blk hb) (by decide))
  have fd3 : (w3.alloc (.cells #[.int .i64 x.1.1, .int .i64 x.1.2, .slice A2 x.2.1.1.length c2, .bool x.2.2] 68)).cell? ⟨q, 0, none⟩ = some (.slice d.A d.row.length d.c) := (unhide HPB).cell 0
  have HS : Hid ((w3.alloc (.cells #[.int .i64 x.1.1, .int .i64 x.1.2, .slice A2 x.2.1.1.length c2, .bool x.2.2] 68)).drew.ownsRow B 68 4 (.slice d.A d.row.length d.c) d.row.length (dCells d.row)) := hide (own_drewN (hd3.row.alloc _) 1)
  clear hd3
  go_region_law (refine step_append_any _ rfl (.tmp 34) (.tmp 36) _ rfl B 68 j0 _ 4 48 Try.underlying42 hj hy0 hy1 hy2 rfl (by omega) (.slice d.A d.row.length d.c) d.row.length _ (by first | (with_reducible rfl) | go_simp) (unhide HS) _ (some ⟨w3.heap.size, 0, none⟩) 1 1 _ (by first | (with_reducible rfl) | go_simp) (RdV.of_own (base := 0) (size := 4) (World.ownsRow_lit w3 #[.int .i64 x.1.1, .int .i64 x.1.2, .slice A2 x.2.1.1.length c2, .bool x.2.2] 1 (Nat.zero_le _) (by simp [maxLen]) rfl)) rfl (by intro u hu; simp at hu; rcases hu with rfl | rfl | rfl | rfl <;> rfl) (by simp only [maxLen]; omega) (by omega) (by simp; omega) ?_
                 intro A4 c4 w4 hown4 hg4 hat4 hbel4 hcc4
                 have HPUT := hide (DStep.push (w2 := w3.drew) (x := (x.1, ((x.2.1.1, A2, c2), x.2.2))) (DStep.drew (unhide HST3)) hB (own_drewN (unhide HO3) 1) (unhide HSM) hown4 hg4 hat4)
                 have hq4 := (unhide HPB).drew.grown hg4 (unhide hqr)
                 have fc4 : w4.cell? ⟨q, 0, none⟩ = some (.slice d.A d.row.length d.c) := hq4.cell 0
                 have fz4 := hq4.frozen 0; clear hown4 hg4 hat4 hbel4 hq4)
  all_goals go_wp2_with fail
  all_goals
    go_ret
    exact⟨rfl,A4,c4,A2,c2,(unhide<|HPUT)⟩
set_option maxHeartbeats 2000000 in
set_option maxRecDepth 20000 in
theorem dback_ok (B q : Nat) (d : DS) (f t : Int) (pre post : List DP) (x : DP) (w : World) (h : DocAt w B q d) (hB : B ≤ w.heap.size) (hs : d.row.length ≤ 100000) (hr : Rt f t) (he : d.row = pre ++ x :: post) (hx : x.1 = (f, t)) :
    Calls Try.prog 34 #[.pointer (some ⟨q, 0, none⟩), .int .i64 f, .int .i64 t, .int .i64 ((way f t pre).length : Int)] w (DPut w B q d (pre ++ post) x) := by
  have HL := hide (dtake_yes B q d f t pre post x w h hB hs hr he hx)
  have HSM := hide (h.small x (by rw [he]; simp))
  have hlen2 : (pre ++ post).length ≤ 100000 := by rw [he] at hs; simp at hs ⊢; omega
  clear h hr he hx hs
  generalize hr2 : pre ++ post = r2 at HL hlen2 ⊢
  clear hr2
  go_enter Try.func34, Try.ntmps34
  go_upto_region 3 with (first
    | (go_at_call 31; refine (unhide HL).mono ?_; rintro _ w2 ⟨A2, c2, A3, c3, rfl, hst, ho2⟩; have HST := hide hst; have HO2 := hide (ho2.alloc (.cells #[.int .i64 0, .int .i64 0, .slice none 0 0, .bool false] 68)); have HOL := hide (fun k hk => (ho2.lt k hk).2); have HM2 := hide ((Mem.start w2).new (t := 68) (cs := #[.int .i64 0, .int .i64 0, .slice none 0 0, .bool false]) w2.heap.size rfl); clear hst ho2)
    | (refine wpList_store_blk rfl 68 (.tmp 9) (.tmp 17) rfl (w2.heap.size) _ (by rfl) (by rfl) 68 _ (unhide HM2).blk0 (by kernel_rfl) (by rfl) (by simp [Value.oneCell']) ?_; intro w3 hbS hgS; have HM3 := hide ((unhide HM2).grown0 hbS hgS); have HGw3 := hide hgS; clear hbS hgS))
  have HO3 : Hid (w3.ownsRow w.heap.size 5 1 (.slice A2 x.2.1.1.length c2) x.2.1.1.length (x.2.1.1.map Bv)) := hide ((unhide HO2).kept (unhide HGw3) (.inr fun e => Nat.lt_irrefl _ ((unhide HOL) _ e)))
  have hst3 := (unhide HST).trans (DStep.of_new (unhide HST).at_ (unhide HM3).below)
  obtain ⟨d1, e1, e2, e3⟩ : ∃ d1 : DS, (⟨A3, c3, r2, d.lost⟩ : DS) = d1 ∧ d1.row = r2 ∧ d1.lost = d.lost := ⟨_, rfl, rfl, rfl⟩
  rw [e1] at hst3
  have HST3 := hide hst3
  have HE2 := hide e2; have HE3 := hide e3
  have hs1 : d1.row.length ≤ 100000 := by rw [e2]; exact hlen2
  clear hst3 e1 e2 e3 HST
  obtain ⟨j0, hj, hy0, hy1, hy2⟩ := info_parts dpkinfo
  have fp := dpkAt (unhide HM3).blk0
  have hd3 := (unhide HST3).at_
  have fc3 : w3.cell? ⟨q, 0, none⟩ = some (.slice d1.A d1.row.length d1.c) := hd3.hdr0
  have hB3 : B ≤ w3.heap.size := Nat.le_trans hB (unhide HST3).only.size
  have HPB := hide (hd3.blk.alloc (.cells #[.int .i64 x.1.1, .int .i64 x.1.2, .slice A2 x.2.1.1.length c2, .bool x.2.2] 68))
  have hqr : Hid (some q ≠ (dhdr d1).ownBlock) := hide (fun e => by obtain ⟨cur, hb⟩ := own_blk hd3.row e.symm; exact absurd (blk_type hd3.blk hb) (by decide))
  have fd3 : (w3.alloc (.cells #[.int .i64 x.1.1, .int .i64 x.1.2, .slice A2 x.2.1.1.length c2, .bool x.2.2] 68)).cell? ⟨q, 0, none⟩ = some (.slice d1.A d1.row.length d1.c) := (unhide HPB).cell 0
  have HS : Hid ((w3.alloc (.cells #[.int .i64 x.1.1, .int .i64 x.1.2, .slice A2 x.2.1.1.length c2, .bool x.2.2] 68)).drew.ownsRow B 68 4 (.slice d1.A d1.row.length d1.c) d1.row.length (dCells d1.row)) := hide (own_drewN (hd3.row.alloc _) 1)
  clear hd3
  go_region_law (refine step_append_any _ rfl (.tmp 25) (.tmp 27) _ rfl B 68 j0 _ 4 48 Try.underlying42 hj hy0 hy1 hy2 rfl (by omega) (.slice d1.A d1.row.length d1.c) d1.row.length _ (by first | (with_reducible rfl) | go_simp) (unhide HS) _ (some ⟨w3.heap.size, 0, none⟩) 1 1 _ (by first | (with_reducible rfl) | go_simp) (RdV.of_own (base := 0) (size := 4) (World.ownsRow_lit w3 #[.int .i64 x.1.1, .int .i64 x.1.2, .slice A2 x.2.1.1.length c2, .bool x.2.2] 1 (Nat.zero_le _) (by simp [maxLen]) rfl)) rfl (by intro u hu; simp at hu; rcases hu with rfl | rfl | rfl | rfl <;> rfl) (by simp only [maxLen]; omega) (by omega) (by simp; omega) ?_
                 intro A4 c4 w4 hown4 hg4 hat4 hbel4 hcc4
                 have HPUT := hide (DStep.push (w2 := w3.drew) (x := (x.1, ((x.2.1.1, A2, c2), x.2.2))) (DStep.drew (unhide HST3)) hB (own_drewN (unhide HO3) 1) (unhide HSM) hown4 hg4 hat4)
                 have hq4 := (unhide HPB).drew.grown hg4 (unhide hqr)
                 have fc4 : w4.cell? ⟨q, 0, none⟩ = some (.slice d1.A d1.row.length d1.c) := hq4.cell 0
                 have fz4 := hq4.frozen 0; clear hown4 hg4 hat4 hbel4 hq4)
  all_goals go_wp2_with fail
  all_goals
    go_ret
    exact⟨rfl,A4,c4,A2,c2,(unhide<|HE2)▸(unhide<|HE3)▸(unhide<|HPUT)⟩
end Go.Proofs.Ytbclfiollfagmaa
