/- The walk of FrameBack. -/
import Derived.Test.YtjlmcjegfbnhpaaFrmSame
import Derived.Test.YtjlmcjegfbnhpaaFrmBackMath
namespace Go.Proofs.Ytjlmcjegfbnhpaa
set_option linter.unusedVariables false
open Go.RowKit

theorem Came.u8 {H : Type} {enc : TypeId × Value → H} {P : Program} {W : World} {k : DataW H → Prop} {t : TypeId} {v : Value} (ht : P.underlying t = some (.int .u8)) (h : Came enc P W k t v) : ∃ s : BitVec 8, v = .int .u8 (s.toNat : Int) := by
  obtain ⟨n, rfl, w⟩ := h.int ht
  simp [Lit.wf, IntKind.min, IntKind.max, IntKind.signed, IntKind.bits] at w
  refine ⟨BitVec.ofNat 8 n.toNat, ?_⟩
  rw [BitVec.toNat_ofNat]
  congr 1
  omega
theorem Frm.good_of {f : Frm.F} (h : (Frm.pack f).2 = 0) : ∃ v e s a : Nat, f = ⟨v, e, s, a, f.body⟩ ∧ Frm.Good v e s a f.body := by
  by_cases hb : Frm.Bad f
  · rw [Frm.pack, if_pos hb] at h; cases h
  · obtain ⟨v, e, s, a, hf, hv, he, hs, ha⟩ := Frm.nats hb
    refine ⟨v, e, s, a, hf, ⟨hv.1, hv.2, he, hs, ha, ?_⟩⟩
    rw [Frm.pack, if_neg hb] at h
    by_cases hl : 1048576 < f.body.length
    · rw [if_pos hl] at h; cases h
    · omega
theorem Frm.bad_of {f : Frm.F} (h : (Frm.pack f).2 ≠ 0) : ∃ er : Int, Frm.pack f = ([], er) ∧ er ≠ 0 := by
  by_cases hb : Frm.Bad f
  · exact ⟨1, by rw [Frm.pack, if_pos hb], by omega⟩
  · by_cases hl : 1048576 < f.body.length
    · exact ⟨6, by rw [Frm.pack, if_neg hb, if_pos hl], by omega⟩
    · rw [Frm.pack, if_neg hb, if_neg hl] at h
      exact absurd rfl h
/-- Pack of a good frame, wherever its body lies -/
theorem pack_goodC {v e s a : Nat} {t : List UInt8} (hg : Frm.Good v e s a t) (u : World) (A : Option Addr) (c B : Nat) (hr : RdB u B A t) (hB : B ≤ u.heap.size) :
    Calls Try.prog 10 #[.agg #[.int .i64 (v : Int), .int .i64 (e : Int), .int .i64 (s : Int), .int .i64 (a : Int), .slice A t.length c]] u (FreshBE u (Frm.whole (Frm.plain ⟨v, e, s, a, t⟩)) 0) :=
  pack_ok v e s a t A c B u ⟨hg.v1, hg.v2⟩ hg.e hg.s hg.a hg.t hr hB
theorem unpack_goodC {v e s a : Nat} {t : List UInt8} (hg : Frm.Good v e s a t) (u : World) (A : Option Addr) (c B : Nat) (hr : RdB u B A (Frm.whole (Frm.plain ⟨v, e, s, a, t⟩))) (hB : B ≤ u.heap.size) (hlc : (Frm.whole (Frm.plain ⟨v, e, s, a, t⟩)).length ≤ c) (hc : c ≤ 9223372036854775807) :
    Calls Try.prog 14 #[.slice A (Frm.whole (Frm.plain ⟨v, e, s, a, t⟩)).length c] u fun e' w' => ∃ A2 c2, e' = .returned (.tuple #[.agg #[.int .i64 (v : Int), .int .i64 (e : Int), .int .i64 (s : Int), .int .i64 (a : Int), .slice A2 t.length c2], .int .i64 0]) ∧
      w'.ownsRow u.heap.size 5 1 (.slice A2 t.length c2) t.length (t.map Bv) ∧ Below u.heap.size u w' := by
  have h := unpack_any _ A c B u hr hB hlc hc
  rw [Frm.unpack_whole hg] at h
  refine Calls.mono h ?_
  rintro e' w' ⟨A2, c2, rfl, h1, h2, h3⟩
  exact ⟨A2, c2, rfl, h1, h2⟩
/-- Unpack of bytes that are no frame -/
theorem unpack_zeroC {b : List UInt8} {er : Int} (hb : Frm.unpack b = (Frm.F.zero, er)) (u : World) (A : Option Addr) (n c B : Nat) (hr : RdB u B A b) (hB : B ≤ u.heap.size) (hn : b.length = n) (hlc : n ≤ c) (hc : c ≤ 9223372036854775807) :
    Calls Try.prog 14 #[.slice A n c] u fun e' w' => ∃ A2 c2, e' = .returned (.tuple #[.agg #[.int .i64 0, .int .i64 0, .int .i64 0, .int .i64 0, .slice A2 0 c2], .int .i64 er]) ∧ Below u.heap.size u w' := by
  subst hn
  have h := unpack_any _ A c B u hr hB hlc hc
  rw [hb] at h
  refine Calls.mono h ?_
  rintro e' w' ⟨A2, c2, rfl, h1, h2, h3⟩
  exact ⟨A2, c2, rfl, h2⟩

set_option maxHeartbeats 2000000 in
set_option maxRecDepth 20000 in
theorem frameBack_ok (v e s a : Nat) (t : List UInt8) (A : Option Addr) (c : Nat) (m : UInt8) (w : World) (hg : Frm.Good v e s a t) (hr : RdB w w.heap.size A t) :
    Calls Try.prog 5 #[.agg #[.int .i64 (v : Int), .int .i64 (e : Int), .int .i64 (s : Int), .int .i64 (a : Int), .slice A t.length c], .int .u8 (m.toNat : Int)] w fun e' w' => e' = .returned (.bool true) ∧ Below w.heap.size w w' := by
  obtain ⟨i0, hi, hz0, hz1, hz2⟩ := info_parts u8info
  have HM0 := hide ((Mem.start w).new (t := 24) (cs := #[.int .i64 (v : Int), .int .i64 (e : Int), .int .i64 (s : Int), .int .i64 (a : Int), .slice A t.length c]) w.heap.size rfl)
  have HA := hide awake_any
  have HP := hide (pack_goodC hg)
  have HX := hide (unpack_goodC hg)
  have HY := hide (unpack_zeroC (Frm.unpack_more hg m))
  have HF := hide (refSameF_eq ⟨v, e, s, a, t⟩)
  have hxl : (Frm.whole (Frm.plain ⟨v, e, s, a, t⟩)).length ≤ 1048597 := by rw [Frm.whole_len, Frm.plain_len]; have := hg.t; simp only; omega
  generalize Frm.whole (Frm.plain ⟨v, e, s, a, t⟩) = x at HP HX HY hxl
  have HSX := hide (same_any x x)
  go_enter Try.func5, Try.ntmps5
  go_wp2_with (first
    | (refine wpList_load_blk rfl 24 (.tmp 2) rfl (w.heap.size) rfl 24 _ _ ((unhide HM0).blk0) Try.underlying24 rfl (by kernel_rfl) ?_)
    | (go_at_call 10; (with_reducible refine ((unhide HP) _ A c w.heap.size (hr.below (unhide HM0).below) (unhide HM0).size).mono ?_); rintro _ w1 ⟨A1, c1, rfl, hown1, hbel1, hcc1⟩
       have HM1 := hide ((unhide HM0).called hbel1); have HO1 := hide hown1; have HR1 := hide (RdB.of_own hown1); have hcc1' := hide hcc1; clear hown1 hbel1 hcc1)
    | (go_at_call 14; (with_reducible refine ((unhide HX) _ A1 c1 _ (unhide HR1) (Nat.le_refl _) (unhide hcc1') (own_cap (unhide HO1))).mono ?_); rintro _ w2 ⟨A2, c2, rfl, hown2, hbel2⟩
       have HM2 := hide (((unhide HM1).called hbel2).new (t := 24) (cs := #[.int .i64 (v : Int), .int .i64 (e : Int), .int .i64 (s : Int), .int .i64 (a : Int), .slice A2 t.length c2]) w2.heap.size rfl)
       have HR2 := hide (RdB.of_own hown2); have HC12 := hide hbel2; clear hown2 hbel2)
    | (refine wpList_load_blk rfl 24 (.tmp 7) rfl (w2.heap.size) rfl 24 _ _ ((unhide HM2).blk0) Try.underlying24 rfl (by kernel_rfl) ?_)
    | (go_at_call 10; (with_reducible refine ((unhide HP) _ A2 c2 w2.heap.size ((unhide HR2).alloc (Nat.le_refl _) _) (by simp)).mono ?_); rintro _ w3 ⟨A3, c3, rfl, hown3, hbel3, hcc3⟩
       have HM3 := hide ((unhide HM2).called hbel3); have HR3 := hide (RdB.of_own hown3)
       have HC13 := hide (((unhide HC12).alloc (unhide HC12).size _).trans (hbel3.mono (by have := (unhide HC12).size; simp; omega)))
       have HC23 := hide (((Below.refl _ w2).alloc (Nat.le_refl _) _).trans (hbel3.mono (by simp)))
       have HOn := hide (own_new w3 w3.heap.size #[] 5 0 [] (Nat.le_refl _) (by simp [maxLen]) rfl rfl)
       have HV1 := hide (((unhide HR1).below (unhide HC13)).alloc (unhide HC13).size (.cells #[] 5)).v; clear hown3 hbel3 hcc3)
    | (at_builtin
       refine wpList_append_any _ rfl (.tmp 37) (.tmp 38) _ rfl w3.heap.size 5 i0 _ 1 1 Try.underlying22 hi hz0 hz1 hz2 rfl (by omega) _ 0 [] rfl
         (unhide HOn) _ A1 x.length c1 _ rfl (unhide HV1) (by simp) oneCell_Bv (by simp only [maxLen]; omega) (by omega) (by simp) ?_
       intro A4 c4 w4 hown4 hg4 hat4 hbel4 hcc4
       rw [Nat.zero_add, List.nil_append] at hown4; rw [Nat.zero_add]
       have HO4 := hide hown4; have HC34 := hide (((Below.refl _ w3).alloc (Nat.le_refl _) _).trans hbel4); clear hown4 hg4 hat4 hbel4 hcc4)
    | (at_builtin
       refine wpList_append_any _ rfl (.tmp 39) (.tmp 41) _ rfl w3.heap.size 5 i0 _ 1 1 Try.underlying22 hi hz0 hz1 hz2 rfl (by omega) _ x.length _ rfl
         ((unhide HO4).alloc _) _ _ 1 1 _ rfl (RdV.one w4 _ _ _) rfl (by intro u hu; simp at hu; subst hu; rfl) (by simp only [maxLen]; omega) (by omega) (by have := (unhide HC34).size; simp; omega) ?_
       intro A5 c5 w5 hown5 hg5 hat5 hbel5 hcc5
       have HR5 : Hid (RdB w5 w5.heap.size A5 (x ++ [m])) := hide (RdV.b (RdV.of_own (by rw [List.map_append, List.map_singleton]; exact hown5)))
       have HC35 := hide (((unhide HC34).alloc (unhide HC34).size _).trans hbel5); have hcap5 := hide (own_cap hown5); have hcc5' := hide hcc5; clear hown5 hg5 hat5 hbel5 hcc5)
    | (go_at_call 14; (with_reducible refine ((unhide HY) _ A5 (x.length + 1) c5 _ (unhide HR5) (Nat.le_refl _) (by simp) (unhide hcc5') (unhide hcap5)).mono ?_); rintro _ w6 ⟨A6, c6, rfl, hbel6⟩
       have HC36 := hide ((unhide HC35).trans (hbel6.mono (unhide HC35).size)); clear hbel6)
    | (go_at_call 12; refine (unhide HA _).mono ?_; rintro _ w7 ⟨rfl, hb7⟩
       have HC37 := hide (((unhide HC36).alloc (unhide HC36).size _).trans (hb7.mono (by have := (unhide HC36).size; simp; omega)))
       have HM7 := hide ((unhide HM3).called (unhide HC37)); have fc1 := Frm.cellsAt (unhide HM7).blk0; have fc2 := Frm.cellsAt (unhide HM7).blk1
       have HC17 := hide ((unhide HC13).trans ((unhide HC37).mono (unhide HC13).size)); have HC27 := hide ((unhide HC23).trans ((unhide HC37).mono (unhide HC23).size)); clear hb7)
    | (go_at_call 16; refine ((unhide HF) A A2 _ _ c c2 w.heap.size w2.heap.size w7 (hr.below (unhide HM7).below) ((unhide HR2).below (unhide HC27)) (unhide HM7).size (unhide HC27).size rfl rfl).mono ?_; rintro _ w8 ⟨rfl, hb8⟩
       have HB8 := hide hb8; have HM8 := hide ((unhide HM7).called hb8); clear hb8)
    | (go_at_call 13; refine ((unhide HSX) A1 A3 c1 c3 w1.heap.size w3.heap.size w8 ((unhide HR1).below ((unhide HC17).trans ((unhide HB8).mono (unhide HC17).size))) ((unhide HR3).below ((unhide HC37).trans ((unhide HB8).mono (unhide HC37).size)))).mono ?_; rintro _ w9 ⟨rfl, rfl⟩; rw [beq_self_eq_true]))
  go_ret
  exact ⟨rfl, (unhide HM8).below⟩

set_option maxHeartbeats 1000000 in
set_option maxRecDepth 20000 in
theorem frameBack_bad (f : Frm.F) (A : Option Addr) (c : Nat) (m : UInt8) (w : World) (hr : RdB w w.heap.size A f.body) (hb63 : f.body.length ≤ 9223372036854775807) (er : Int) (hp : Frm.pack f = ([], er)) (he : er ≠ 0) :
    Calls Try.prog 5 #[.agg #[.int .i64 f.ver, .int .i64 f.epoch, .int .i64 f.seq, .int .i64 f.ack, .slice A f.body.length c], .int .u8 (m.toNat : Int)] w fun e' w' => e' = .returned (.bool true) ∧ Below w.heap.size w w' := by
  have HM0 := hide ((Mem.start w).new (t := 24) (cs := #[.int .i64 f.ver, .int .i64 f.epoch, .int .i64 f.seq, .int .i64 f.ack, .slice A f.body.length c]) w.heap.size rfl)
  have HA := hide awake_any
  have HP := hide (pack_any f A c w.heap.size _ (hr.below (unhide HM0).below) (unhide HM0).size hb63)
  rw [hp] at HP
  have hx : (er != 0) = true := by simp [he]
  clear hp he
  go_enter Try.func5, Try.ntmps5
  go_wp2_with (first
    | (refine wpList_load_blk rfl 24 (.tmp 2) rfl (w.heap.size) rfl 24 _ _ ((unhide HM0).blk0) Try.underlying24 rfl (by kernel_rfl) ?_)
    | (go_at_call 10; refine (unhide HP).mono ?_; rintro _ w1 ⟨A1, c1, rfl, hown1, hbel1, hcc1⟩; have HM1 := hide ((unhide HM0).called hbel1); clear hown1 hbel1 hcc1)
    | (go_at_call 12; refine (unhide HA _).mono ?_; rintro _ w7 ⟨rfl, hb7⟩; have HM7 := hide ((unhide HM1).called hb7); clear hb7))
  go_ret
  exact ⟨rfl, (unhide HM7).below⟩
theorem frameBack_any (f : Frm.F) (A : Option Addr) (c : Nat) (m : BitVec 8) (w : World) (hr : RdB w w.heap.size A f.body) (hlc : f.body.length ≤ c) (hc : c ≤ 140737488351232) :
    Calls Try.prog 5 #[Frm.val f A c, .int .u8 (m.toNat : Int)] w fun e' w' => e' = .returned (.bool true) ∧ Below w.heap.size w w' := by
  by_cases h : (Frm.pack f).2 = 0
  · obtain ⟨v, e, s, a, hf, hg⟩ := Frm.good_of h
    generalize f.body = b at *
    subst hf
    exact frameBack_ok v e s a b A c ⟨m⟩ w hg hr
  · obtain ⟨er, hp, he⟩ := Frm.bad_of h
    exact frameBack_bad f A c ⟨m⟩ w hr (by omega) er hp he
end Go.Proofs.Ytjlmcjegfbnhpaa
