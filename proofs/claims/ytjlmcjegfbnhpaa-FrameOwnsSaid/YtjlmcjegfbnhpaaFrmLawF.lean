/- The walk of FrameOwns. -/
import Derived.Test.YtjlmcjegfbnhpaaFrmLawC
namespace Go.Proofs.Ytjlmcjegfbnhpaa
set_option linter.unusedVariables false
open Go.RowKit

theorem Mem.far {W w : World} {L : Known} {g i : Nat} {v : Value} (h : Mem W w L) (hB : W.heap.size ≤ g) (hne : ∀ p ∈ L, p.1 ≠ g) : Mem W (w.setCell ⟨g, i, none⟩ v) L :=
  ⟨h.below.setCell hB _, fun p hp => (h.blk p hp).far (hne p hp) _, h.ge, h.apart⟩
theorem xor_255 (x : UInt8) : bits BinOp.xor IntKind.u8 (x.toNat : Int) 255 = ((x ^^^ 255).toNat : Int) := by
  have hx := x.toNat_lt
  have h := u8_xor_nat x.toNat 255 (by omega) (by omega)
  rw [UInt8.toNat_xor]
  exact h
theorem own_cellAt {w : World} {base : Nat} {e : TypeId} {g n c : Nat} {l : List UInt8} (h : w.ownsRow base e 1 (.slice (some ⟨g, 0, none⟩) n c) n (l.map Bv)) (k : Nat) (hk : k < n) (hl : l.length = n) :
    w.cell? ⟨g, k, none⟩ = some (.int .u8 ((l[k]'(by omega)).toNat : Int)) :=
  (h.cellAt k (by omega)).trans (by rw [List.getElem?_map, List.getElem?_eq_getElem (by omega)]; rfl)

set_option maxHeartbeats 2000000 in
set_option maxRecDepth 20000 in
theorem frameOwns_ok (v e s a : Nat) (t : List UInt8) (A : Option Addr) (c : Nat) (w : World) (hg : Frm.Good v e s a t) (hr : RdB w w.heap.size A t) :
    Calls Try.prog 8 #[.agg #[.int .i64 (v : Int), .int .i64 (e : Int), .int .i64 (s : Int), .int .i64 (a : Int), .slice A t.length c]] w fun e' w' => e' = .returned (.bool true) ∧ Below w.heap.size w w' := by
  obtain ⟨i0, hi, hz0, hz1, hz2⟩ := info_parts u8info
  obtain ⟨W, hW⟩ : ∃ W, w.alloc (.cells #[.int .i64 (v : Int), .int .i64 (e : Int), .int .i64 (s : Int), .int .i64 (a : Int), .slice A t.length c] 24) = W := ⟨_, rfl⟩
  have HM0 : Hid (Mem w W [(w.heap.size, 24, #[.int .i64 (v : Int), .int .i64 (e : Int), .int .i64 (s : Int), .int .i64 (a : Int), .slice A t.length c])]) := hide (by rw [← hW]; exact (Mem.start w).new w.heap.size rfl)
  have hws : W.heap.size = w.heap.size + 1 := by rw [← hW]; simp
  have HA := hide awake_any
  have HP := hide (pack_goodC hg)
  have HX := hide (unpack_goodC hg)
  have HSX := hide (same_any t t)
  have htl := hg.t
  have hxl : (Frm.whole (Frm.plain ⟨v, e, s, a, t⟩)).length ≤ 1048597 := by rw [Frm.whole_len, Frm.plain_len]; simp only; omega
  have hxp : 0 < (Frm.whole (Frm.plain ⟨v, e, s, a, t⟩)).length := by rw [Frm.whole_len]; omega
  generalize Frm.whole (Frm.plain ⟨v, e, s, a, t⟩) = x at HP HX hxl hxp
  have HOn : Hid ((W.alloc (.cells #[] 5)).ownsRow (w.heap.size + 1) 5 1 (.slice (some ⟨w.heap.size + 1, 0, none⟩) 0 0) 0 []) := hide (by
    have h := own_new W (w.heap.size + 1) #[] 5 0 [] (by omega) (by simp [maxLen]) rfl rfl
    rw [hws] at h
    exact h)
  have HM0a := hide ((unhide HM0).other (.cells #[] 5))
  have fca := Frm.cellsAt (unhide HM0a).blk0
  have hsz1 : Hid (w.heap.size + 1 ≤ (W.alloc (.cells #[] 5)).heap.size) := hide (by simp [hws])
  go_enter Try.func8, Try.ntmps8
  go_wp2_with (first
    | (at_builtin
       refine wpList_append_any _ rfl (.tmp 9) (.tmp 11) _ rfl (w.heap.size + 1) 5 i0 _ 1 1 Try.underlying22 hi hz0 hz1 hz2 rfl (by omega) _ 0 [] rfl
         (unhide HOn) _ A t.length c _ rfl (hr.below (unhide HM0a).below).v (by simp) oneCell_Bv (by simp only [maxLen]; omega) (by omega) (unhide hsz1) ?_
       intro A4 c4 w4 hown4 hg4 hat4 hbel4 hcc4
       rw [Nat.zero_add, List.nil_append] at hown4; rw [Nat.zero_add] at hcc4 ⊢
       have HR4 := hide (RdB.of_own hown4); have HM4 := hide ((unhide HM0a).low hbel4 (by simp) (by omega)); clear hown4 hg4 hat4 hbel4)
    | (refine wpList_load_blk rfl 24 (.tmp 1) rfl (w.heap.size) rfl 24 _ _ ((unhide HM4).blk0) Try.underlying24 rfl (by kernel_rfl) ?_)
    | (go_at_call 10; (with_reducible refine ((unhide HP) _ A c w.heap.size (hr.below (unhide HM4).below) (unhide HM4).size).mono ?_); rintro _ w1 ⟨A1, c1, rfl, hown1, hbel1, hcc1⟩
       have HM1 := hide ((unhide HM4).called hbel1); have HR1 := hide (RdB.of_own hown1); have HO1 := hide hown1; have hcap1 := own_cap hown1; have HC41 := hide hbel1; clear hown1 hbel1)
    | (go_at_call 14; refine ((unhide HX) _ A1 c1 _ (unhide HR1) (Nat.le_refl _) hcc1 hcap1).mono ?_; rintro _ w2 ⟨A2, c2, rfl, hown2, hbel2⟩
       have HO2 := hide hown2; have HC12 := hide hbel2; have HM2 := hide (((unhide HM1).called hbel2).new (t := 24) (cs := #[.int .i64 (v : Int), .int .i64 (e : Int), .int .i64 (s : Int), .int .i64 (a : Int), .slice A2 t.length c2]) w2.heap.size rfl); clear hown2 hbel2))
  obtain ⟨g, e1, hg1, hg2⟩ : ∃ g, A1 = some ⟨g, 0, none⟩ ∧ w4.heap.size ≤ g ∧ g < w1.heap.size := by
    obtain ⟨g, cap, hv, hbg, hlt⟩ := (unhide HO1).form hxp
    exact ⟨g, by injection hv, hbg, hlt⟩
  subst e1
  have hs4 := (unhide HM4).size
  have hN4 := (unhide HM4).blk0.lt
  have hs12 := (unhide HC12).size
  have HO2a := hide ((unhide HO2).alloc (.cells #[.int .i64 (v : Int), .int .i64 (e : Int), .int .i64 (s : Int), .int .i64 (a : Int), .slice A2 t.length c2] 24))
  have HO1a := hide ((own_below (unhide HO1) (unhide HC12) (fun q hq => ((unhide HO1).lt q hq).2)).alloc (.cells #[.int .i64 (v : Int), .int .i64 (e : Int), .int .i64 (s : Int), .int .i64 (a : Int), .slice A2 t.length c2] 24))
  have HC4a := hide ((((unhide HC41).trans ((unhide HC12).mono (unhide HC41).size)).alloc (by have := (unhide HC41).size; omega) (.cells #[.int .i64 (v : Int), .int .i64 (e : Int), .int .i64 (s : Int), .int .i64 (a : Int), .slice A2 t.length c2] 24)))
  go_loopw [34] (fun i wr => ∃ (k : Nat) (y : List UInt8), k ≤ x.length ∧ i = .int .i64 k ∧ y.length = x.length ∧ wr.ownsRow w4.heap.size 5 1 (.slice (some ⟨g, 0, none⟩) x.length c1) x.length (y.map Bv) ∧
      wr.ownsRow w1.heap.size 5 1 (.slice A2 t.length c2) t.length (t.map Bv) ∧ Below w4.heap.size w4 wr ∧
      Mem w wr [(w2.heap.size, 24, #[.int .i64 (v : Int), .int .i64 (e : Int), .int .i64 (s : Int), .int .i64 (a : Int), .slice A2 t.length c2]), (w.heap.size, 24, #[.int .i64 (v : Int), .int .i64 (e : Int), .int .i64 (s : Int), .int .i64 (a : Int), .slice A t.length c])]) (fun i _ => x.length - (intOf i).toNat)
  case atStart => exact ⟨0, x, Nat.zero_le _, rfl, rfl, unhide HO1a, unhide HO2a, unhide HC4a, unhide HM2⟩
  case round =>
    obtain ⟨k, y, hk, rfl, hyl, hrow, ho2, hb4, hm⟩ := hrel
    by_cases hlt : k < x.length
    · have hcell := own_cellAt hrow k hlt hyl
      have hfz := hrow.frozenAt k
      have HRow := hide hrow
      have HO2r := hide ho2
      have HB4 := hide hb4
      have HMr := hide hm
      have HXO := hide (xor_255 (y[k]'(by omega)))
      clear hrow ho2 hb4 hm
      go_wp2_with fail
      go_roundw
      case rel => exact ⟨k + 1, y.set k (y[k]'(by omega) ^^^ 255), by omega, by go_num, by rw [List.length_set]; exact hyl, by
          have := ((unhide HRow).stored k (Bv (y[k]'(by omega) ^^^ 255))).1
          rw [← List.map_set] at this
          rw [unhide HXO]
          exact this, ownsRow_setCell_other (unhide HO2r) (fun h => by have := ((unhide HO2r).lt _ h).1; simp at this; omega) _, (unhide HB4).setCell hg1 _, (unhide HMr).far (by omega) (by
            intro q hq
            simp only [List.mem_cons, List.not_mem_nil, or_false] at hq
            rcases hq with rfl | rfl
            · simp; omega
            · simp; omega)⟩
      case measure => simp [intOf]; omega
    · obtain rfl : k = x.length := by omega
      have HR2 := hide (RdB.of_own ho2)
      have HR4r := hide ((unhide HR4).below hb4)
      have HMr := hide hm
      have hsr := hb4.size
      clear hrow ho2 hb4 hm
      go_wp2_with (first
        | (go_at_call 12; refine (unhide HA _).mono ?_; rintro _ w7 ⟨rfl, hb7⟩
           have HM7 := hide ((unhide HMr).called hb7); have fc1 := Frm.cellsAt (unhide HM7).blk0; have fc2 := Frm.cellsAt (unhide HM7).blk1
           have HR27 := hide ((unhide HR2).below hb7); have HR47 := hide ((unhide HR4r).below (hb7.mono hsr)); clear hb7)
        | (go_at_call 13; (with_reducible refine ((unhide HSX) A2 A4 c2 c4 _ _ w7 (unhide HR27) (unhide HR47)).mono ?_); rintro _ w8 ⟨rfl, rfl⟩; rw [beq_self_eq_true])
        | (go_at_call 13; (with_reducible refine ((unhide HSX) A A4 c c4 _ _ w7 (hr.below (unhide HM7).below) (unhide HR47)).mono ?_); rintro _ w8 ⟨rfl, rfl⟩; rw [beq_self_eq_true]))
      go_ret
      exact ⟨rfl, (unhide HM7).below⟩

set_option maxHeartbeats 1000000 in
set_option maxRecDepth 20000 in
theorem frameOwns_bad (f : Frm.F) (A : Option Addr) (c : Nat) (w : World) (hr : RdB w w.heap.size A f.body) (hlc : f.body.length ≤ c) (hc : c ≤ 140737488351232) (er : Int) (hp : Frm.pack f = ([], er)) (he : er ≠ 0) :
    Calls Try.prog 8 #[.agg #[.int .i64 f.ver, .int .i64 f.epoch, .int .i64 f.seq, .int .i64 f.ack, .slice A f.body.length c]] w fun e' w' => e' = .returned (.bool true) ∧ Below w.heap.size w w' := by
  obtain ⟨i0, hi, hz0, hz1, hz2⟩ := info_parts u8info
  obtain ⟨W, hW⟩ : ∃ W, w.alloc (.cells #[.int .i64 f.ver, .int .i64 f.epoch, .int .i64 f.seq, .int .i64 f.ack, .slice A f.body.length c] 24) = W := ⟨_, rfl⟩
  have HM0 : Hid (Mem w W [(w.heap.size, 24, #[.int .i64 f.ver, .int .i64 f.epoch, .int .i64 f.seq, .int .i64 f.ack, .slice A f.body.length c])]) := hide (by rw [← hW]; exact (Mem.start w).new w.heap.size rfl)
  have hws : W.heap.size = w.heap.size + 1 := by rw [← hW]; simp
  have HA := hide awake_any
  have HP : Hid (∀ u, Below w.heap.size w u → Calls Try.prog 10 #[.agg #[.int .i64 f.ver, .int .i64 f.epoch, .int .i64 f.seq, .int .i64 f.ack, .slice A f.body.length c]] u (FreshBE u [] er)) := hide (fun u hu => by
    have h := pack_any f A c w.heap.size u (hr.below hu) hu.size (by omega)
    rw [hp] at h
    exact h)
  have hx : (er != 0) = true := by simp [he]
  have HSX := hide (same_any f.body f.body)
  have HOn : Hid ((W.alloc (.cells #[] 5)).ownsRow (w.heap.size + 1) 5 1 (.slice (some ⟨w.heap.size + 1, 0, none⟩) 0 0) 0 []) := hide (by
    have h := own_new W (w.heap.size + 1) #[] 5 0 [] (by omega) (by simp [maxLen]) rfl rfl
    rw [hws] at h
    exact h)
  have HM0a := hide ((unhide HM0).other (.cells #[] 5))
  have fca := Frm.cellsAt (unhide HM0a).blk0
  have hsz1 : Hid (w.heap.size + 1 ≤ (W.alloc (.cells #[] 5)).heap.size) := hide (by simp [hws])
  clear hp he
  go_enter Try.func8, Try.ntmps8
  go_wp2_with (first
    | (at_builtin
       refine wpList_append_any _ rfl (.tmp 9) (.tmp 11) _ rfl (w.heap.size + 1) 5 i0 _ 1 1 Try.underlying22 hi hz0 hz1 hz2 rfl (by omega) _ 0 [] rfl
         (unhide HOn) _ A f.body.length c _ rfl (hr.below (unhide HM0a).below).v (by simp) oneCell_Bv (by simp only [maxLen]; omega) (by omega) (unhide hsz1) ?_
       intro A4 c4 w4 hown4 hg4 hat4 hbel4 hcc4
       rw [Nat.zero_add, List.nil_append] at hown4; rw [Nat.zero_add] at hcc4 ⊢
       have HR4 := hide (RdB.of_own hown4); have HM4 := hide ((unhide HM0a).low hbel4 (by simp) (by omega)); clear hown4 hg4 hat4 hbel4)
    | (refine wpList_load_blk rfl 24 (.tmp 1) rfl (w.heap.size) rfl 24 _ _ ((unhide HM4).blk0) Try.underlying24 rfl (by kernel_rfl) ?_)
    | (go_at_call 10; refine ((unhide HP) _ (unhide HM4).below).mono ?_; rintro _ w1 ⟨A1, c1, rfl, hown1, hbel1, hcc1⟩
       have HM1 := hide ((unhide HM4).called hbel1); have HC41 := hide hbel1; clear hown1 hbel1)
    | (go_at_call 12; refine (unhide HA _).mono ?_; rintro _ w7 ⟨rfl, hb7⟩
       have HM7 := hide ((unhide HM1).called hb7); have fc1 := Frm.cellsAt (unhide HM7).blk0
       have HR47 := hide ((unhide HR4).below ((unhide HC41).trans (hb7.mono (unhide HC41).size))); clear hb7)
    | (go_at_call 13; (with_reducible refine ((unhide HSX) A A4 c c4 _ _ w7 (hr.below (unhide HM7).below) (unhide HR47)).mono ?_); rintro _ w8 ⟨rfl, rfl⟩; rw [beq_self_eq_true]))
  go_ret
  exact ⟨rfl, (unhide HM7).below⟩
theorem frameOwns_any (f : Frm.F) (A : Option Addr) (c : Nat) (w : World) (hr : RdB w w.heap.size A f.body) (hlc : f.body.length ≤ c) (hc : c ≤ 140737488351232) :
    Calls Try.prog 8 #[Frm.val f A c] w fun e' w' => e' = .returned (.bool true) ∧ Below w.heap.size w w' := by
  by_cases h : (Frm.pack f).2 = 0
  · obtain ⟨v, e, s, a, hf, hg⟩ := Frm.good_of h
    generalize f.body = b at *
    subst hf
    exact frameOwns_ok v e s a b A c w hg hr
  · obtain ⟨er, hp, he⟩ := Frm.bad_of h
    exact frameOwns_bad f A c w hr hlc hc er hp he
end Go.Proofs.Ytjlmcjegfbnhpaa
