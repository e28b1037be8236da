/- The walk of NumRows. -/
import Derived.Test.YtbiinlkdgankkaaNumLawE
import Derived.Test.YtbiinlkdgankkaaMemBig
import Derived.Test.YtbiinlkdgankkaaNumTakeRef
import Derived.Test.YtbiinlkdgankkaaAppendStep
import Derived.Deep.RegionHeld3
namespace Go.Proofs.Ytbiinlkdgankkaa
open Go.RowKit Go.Shelf
set_option linter.unusedVariables false
attribute [local go_sem] Oper.semAt_some

theorem Mem.low {W w w' : World} {L : Known} {B : Nat} (h : Mem W w L) (hb : Below B w w') (hL : ∀ p ∈ L, p.1 < B) (hW : W.heap.size ≤ B) : Mem W w' L :=
  ⟨h.below.trans (hb.mono hW), fun p hp => (h.blk p hp).below hb (hL p hp), h.ge, h.apart⟩
theorem refTakeUvar_n (l : List UInt8) (A : Option Addr) (n c B : Nat) (w : World) (hr : RdB w B A l) (hn : l.length = n) (hl : n ≤ 4611686018427387904) :
    Calls Try.prog 12 #[.slice A n c] w fun e w' => e = .returned (.tuple #[.int .u64 ((Num.take l).1 : Int), .int .i64 ((Num.take l).2.1 : Int), .int .i64 (Num.take l).2.2]) ∧ w = w' := by
  subst hn
  exact refTakeUvar_any l A c B w hr hl
theorem results_cell_bool {P : Program} {fn : Func} {p : Tmp} {ty : TypeId} (h : fn.results = #[.cell p ty]) (hu : P.underlying ty = some .bool) (tmps : Array Value) (w : World) (ad : Addr) (b : Bool)
    (hp : tmps.getD p undef = .pointer (some ad)) (hc : w.cell? ad = some (.bool b)) : (results fn tmps).run P w = .ok (.bool b) w := by
  have hp' : tmps[p]?.getD undef = .pointer (some ad) := by simpa using hp
  simp [results, h, hp', isAgg, run_underlying hu, go_sem, hc]
theorem own_forms {w : World} {base size n : Nat} {e : TypeId} {v : Value} {xs : List Value} (h : w.ownsRow base e size v n xs) : (v = .slice none 0 0 ∧ n = 0) ∨ ∃ g cap, v = .slice (some ⟨g, 0, none⟩) n cap := by
  rcases h.2 with h0 | ⟨g, cap, _, hv, _⟩
  · exact .inl h0
  · exact .inr ⟨g, cap, hv⟩
namespace Num
theorem reach_more {b : List UInt8} {pre : List (Nat × Nat)} {x : Nat × Nat} {p q : Nat} (h : Reach b pre p) (h' : Reach b (pre ++ [x]) q) : x.1 = p ∧ ∃ k, take (b.drop p) = (x.2, k, 0) := by
  generalize hz : pre ++ [x] = z at h'
  cases h' with
  | nil => simp at hz
  | @more pre2 p2 n2 k2 g1 g2 g3 =>
    obtain ⟨e1, e2⟩ := List.append_inj' hz rfl
    simp only [List.cons.injEq, and_true] at e2
    subst e1 e2
    have := h.uniq g1
    subst this
    exact ⟨rfl, k2, g3⟩
end Num
set_option maxRecDepth 100000 in
set_option maxHeartbeats 4000000 in
theorem numRows_any (l : List Nat) (hl : ∀ n ∈ l, n < 18446744073709551616) (A : Option Addr) (c : Nat) (hlc : l.length ≤ c) (hc : c ≤ 140737488351232) (tl : List UInt8) (B : Option Addr) (cb : Nat) (htc : tl.length ≤ cb) (hcb : cb ≤ 140737488351232)
    (w : World) (hr : RdU w w.heap.size A l) (ht : RdB w w.heap.size B tl) :
    Calls Try.prog 5 #[.slice A l.length c, .slice B tl.length cb] w fun e w' => e = .returned (.bool true) ∧ Below w.heap.size w w' := by
  have HA := hide awake_any
  refine (callsIn_wide (n := 6)).1 ?_
  refine callsIn_of_wp_marks Try.func5 rfl trivial ?_ rfl
  simp only [Try.ntmps5, List.size_toArray, List.length_cons, List.length_nil, Nat.reduceAdd, Nat.reduceSub, Array.replicate_succ, Array.replicate_zero, List.push_toArray, List.append_toArray, List.nil_append, List.cons_append]
  have HM0 := hide ((Mem.start w).new (t := 4) (cs := #[.bool false]) w.heap.size rfl)
  by_cases hbig : 10000 < l.length
  · gi_wp2_with (refine ⟨trivial, ?_⟩; gi_at_call 13; refine (callsIn_wide.2 (unhide HA _)).mono ?_; rintro e w1 ⟨rfl, hb1⟩; have HM0 := hide ((unhide HM0).called hb1); clear hb1; have f4 := (unhide HM0).blk0.frozen 0; have c4 : w1.cell? ⟨w.heap.size, 0, none⟩ = some (.bool false) := (unhide HM0).blk0.cell 0)
    have HM1 := hide ((unhide HM0).set0 (i := 0) (v := .bool true))
    have hc5 : (w1.setCell ⟨w.heap.size, 0, none⟩ (.bool true)).cell? ⟨w.heap.size, 0, none⟩ = some (.bool true) := (unhide HM1).blk0.cell 0
    refine ⟨.bool true, ?_, rfl, (unhide HM1).below⟩
    simp [results, Try.f5, go_sem, hc5]
  · gi_wp2_with (refine ⟨trivial, ?_⟩; gi_at_call 13; refine (callsIn_wide.2 (unhide HA _)).mono ?_; rintro e w1 ⟨rfl, hb1⟩; have HM1 := hide ((unhide HM0).called hb1); clear hb1)
    have HM2 := hide ((unhide HM1).new (t := 23) (cs := #[.slice none 0 0]) w1.heap.size rfl)
    obtain ⟨i0, hi, hz0, hz1, hz2⟩ := info_parts u8info
    have hw1 := (unhide HM1).size
    have hN := (unhide HM1).blk0.lt
    gi_loopw [25] (fun i wr => ∃ (k : Nat) (A' : Option Addr) (c' : Nat), k ≤ l.length ∧ i = .int .i64 k ∧ Mem w wr [(w1.heap.size, 23, #[.slice A' (Num.rows (l.take k)).length c']), (w.heap.size, 4, #[.bool false])] ∧
        wr.ownsRow (w1.heap.size + 1) 5 1 (.slice A' (Num.rows (l.take k)).length c') (Num.rows (l.take k)).length ((Num.rows (l.take k)).map Bv) ∧ (Num.rows (l.take k)).length ≤ c' ∧ w1.heap.size + 1 ≤ wr.heap.size) (fun i _ => l.length - (intOf i).toNat)
    case atStart => exact ⟨0, none, 0, Nat.zero_le _, rfl, unhide HM2, own_nil _ _ _ _, Nat.le_refl _, by simp⟩
    case round =>
      obtain ⟨k, A', c', hk, rfl, hmem, hown, hcc, hsz⟩ := hrel
      by_cases hlt : k < l.length
      · have HS := hide (Num.rows_succ l hlt)
        obtain ⟨ad, hA, hB, hcl⟩ := (hr.below hmem.below) (by omega)
        subst hA
        have c1 := hcl k l[k] (List.getElem?_eq_getElem hlt)
        have hn64 := hl _ (List.getElem_mem hlt)
        have HU := hide (fun w => uvar_any l[k] w hn64)
        have b1 := Num.rows_len (l.take k) (fun n hn => hl n (List.mem_of_mem_take hn))
        have b2 := Num.uv_len64 hn64
        rw [List.length_take] at b1
        have b3 : (Num.rows (l.take k)).length + (Num.uv l[k]).length ≤ 100010 := by omega
        have HO := hide hown
        have HM := hide hmem
        have c5 := hmem.blk0.cell 0
        have f5 := hmem.blk0.frozen 0
        clear hcl b1 b2 hown hmem hn64
        gi_wp2_with fail
        refine wpIn_wide.2 (wp_region_noPanic ?_)
        go_region_law (first
          | (go_simp; go_at_call 15; refine (unhide HU _).mono ?_; rintro e w2 ⟨A2, c2, rfl, hown2, hbel2, hcc2⟩
             have HM2 := hide ((unhide HM).drew.called hbel2); have HO2 := hide (own_below (unhide HO).drew hbel2 (fun k hk => ((unhide HO).lt k hk).2)); have HR2 := hide (RdV.of_own hown2); have HZ2 := hide hbel2.size; clear hown2 hbel2 hcc2
             have c5 := (unhide HM2).blk0.cell 0; have f5 := (unhide HM2).blk0.frozen 0)
          | (refine step_append_any w2 rfl (.tmp 29) (.tmp 31) _ rfl (w1.heap.size + 1) 5 i0 _ 1 1 Try.underlying23 hi hz0 hz1 hz2 rfl (by omega) _ (Num.rows (l.take k)).length _ (by rfl)
               (unhide HO2) _ A2 (Num.uv l[k]).length c2 ((Num.uv l[k]).map Bv) (by rfl) (unhide HR2) (by simp) oneCell_Bv (by simp only [maxLen]; omega) (by omega) (Nat.le_trans hsz (unhide HZ2)) ?_
             intro A3 c3 w3 hown3 hg3 hat3 hbel3 hcc3; have HO3 := hide hown3; have HM3 := hide ((unhide HM2).low hbel3 (by simp; omega) (by omega)); have HZ3 := hide (Nat.le_trans (unhide HZ2) hbel3.size); clear hown3 hg3 hat3 hbel3
             have c5 := (unhide HM3).blk0.cell 0; have f5 := (unhide HM3).blk0.frozen 0))
        all_goals
          refine NoPanic.normal ?_
          gi_wp2_with fail
          refine ⟨⟨k + 1, A3, c3, by omega, by go_num, by rw [unhide HS, List.length_append]; exact (unhide HM3).set0, by rw [unhide HS, List.length_append, List.map_append]; exact ownsRow_setCell_below (unhide HO3) (Nat.lt_succ_self _) _, by rw [unhide HS, List.length_append]; exact hcc3, by rw [World.size_setCell]; exact Nat.le_trans hsz (unhide HZ3)⟩, by simp [intOf]; omega⟩
      · obtain rfl : k = l.length := by omega
        rw [List.take_length] at hown hcc hmem
        have HO := hide hown
        have HM := hide hmem
        have hrows := Num.rows_len l hl
        have c5 := hmem.blk0.cell 0
        have f5 := hmem.blk0.frozen 0
        have HT := hide (ht.below hmem.below).v
        obtain ⟨bs, hbs, hbl⟩ : ∃ bs : List UInt8, bs.map Bv = (Num.rows l).map Bv ++ tl.map Bv ∧ Hid (bs.length = (Num.rows l).length + tl.length) := ⟨Num.rows l ++ tl, by simp, hide (by simp)⟩
        have hb5 : bs.length ≤ 150000000000000 := by have := unhide hbl; omega
        clear hown hmem
        gi_wp2_with (first
          | (gi_at_builtin
             refine wpListIn_append_big _ rfl (.tmp 34) (.tmp 35) _ rfl (w1.heap.size + 1) 5 i0 _ Try.underlying23 hi hz0 hz1 hz2 rfl _ (Num.rows l).length _ rfl
               (unhide HO) _ B tl.length cb (tl.map Bv) rfl (unhide HT) (by simp) oneCell_Bv (by omega) hsz ?_
             intro A3 c3 w3 hown3 hg3 hat3 hbel3 hcc3
             rw [← unhide hbl, ← hbs] at hown3; rw [← unhide hbl] at hcc3; rw [← unhide hbl]
             have HO3 := hide hown3; have HM3 := hide ((unhide HM).low hbel3 (by simp; omega) (by omega)); have HZ3 := hide (Nat.le_trans hsz hbel3.size); clear hown3 hg3 hat3 hbel3
             have c5 := (unhide HM3).blk0.cell 0; have f5 := (unhide HM3).blk0.frozen 0
             have c6 : ∀ (v : Value) (o : Obj), ((w3.setCell ⟨w1.heap.size, 0, none⟩ v).alloc o).cell? ⟨w1.heap.size, 0, none⟩ = some v := fun v o => (((unhide HM3).set0).other o).blk0.cell 0)
          | (refine ⟨trivial, ?_⟩; gi_at_call 17; refine (uvars_in Fence.wide 5 trivial rfl _ _ _ _).mono ?_; rintro e w2 ⟨rfl, rfl⟩))
        have HM4 := hide ((unhide HM3).set0 (i := 0) (v := .slice A3 bs.length c3))
        have HO4 := hide (ownsRow_setCell_below (unhide HO3) (a := ⟨w1.heap.size, 0, none⟩) (Nat.lt_succ_self _) (.slice A3 bs.length c3))
        obtain ⟨WB, hWB⟩ : ∃ WB, w3.setCell ⟨w1.heap.size, 0, none⟩ (.slice A3 bs.length c3) = WB := ⟨_, rfl⟩
        have hs3 : w3.heap.size = WB.heap.size := by rw [← hWB]; simp
        rw [hWB] at HM4 HO4 ⊢
        rw [hs3] at HZ3 ⊢
        have HM4 : Hid (Mem w WB [(w1.heap.size, 23, #[.slice A3 bs.length c3]), (w.heap.size, 4, #[.bool false])]) := HM4
        clear HM3 HO3 hWB hs3 c5 f5 c6 HM HO HT
        have hc9 := own_cap (unhide HO4)
        have hlt0 := (unhide HM4).blk0.lt
        have hlt1 := (unhide HM4).blk1.lt
        have hbW := hide (RdB.of_own (unhide HO4))
        refine wpIn_rangeFunc_ownF rfl (by omega) (gf := 26) (lb := #[.pointer (some ⟨WB.heap.size + 1, 0, none⟩)]) rfl trivial (enters_of Try.func26 (by kernel_rfl) rfl)
          (uvars_stops 5 (by omega) (WB.heap.size + 1) WB.heap.size bs A3 c3 hcc3 (by omega) hc9 _ (by simp) (by simp; omega) ?hc ?hr) KeepU.t (KeepU.b (by simp; omega) (by simp)) (Below.refl _ _) (fun _ => rfl)
          (fun pre W => (∃ p : Nat, Num.Reach bs pre p ∧ W.cell? ⟨WB.heap.size, 0, none⟩ = some (.int .i64 (p : Int)) ∧ W.frozen? ⟨WB.heap.size, 0, none⟩ = false) ∧ Below WB.heap.size WB W)
          (fun c pre W => c = .ret ∧ ¬ ∃ p, Num.Reach bs pre p)
          ?hI ?hIx ?h0 ?a1 ?assign ?body ?done ?stop
        case assign =>
          intro l1 x W K hK
          gi_wp2
          exact hK
        case hc => exact ((blk_new' WB _ 23 _)).cell 0
        case hr => exact ((unhide hbW).alloc (Nat.le_refl _) _).alloc (by simp) _
        case h0 => exact ⟨⟨0, .nil, (Blk.new WB _ _).alloc _ |>.cell 0, (Blk.new WB _ _).alloc _ |>.frozen 0⟩, ((Below.refl _ _).alloc (Nat.le_refl _) _).alloc (by simp) _⟩
        case hI => exact OwnFrom.and (Own.from (fun s A B row hs hg hr => by obtain ⟨p, h1, h2, h3⟩ := hs; exact ⟨p, h1, cell_kept h2 hg hr, (frozen_kept h2 hg hr).trans h3⟩) _) (ownFrom_below (Nat.le_refl _) (by simp; omega))
        case hIx => exact fun c s A B row hs hg hr => hs
        case stop =>
          rintro D cd pre W hD hre ⟨rfl, hn⟩ hK
          exact absurd hre hn
        case body =>
          rintro l1 pre x W ⟨⟨p, hre, hc1, hf1⟩, hB⟩ hpl
          have c5W : W.cell? ⟨w1.heap.size, 0, none⟩ = some (.slice A3 bs.length c3) := (hB.cell (p := ⟨w1.heap.size, 0, none⟩) hlt0).trans ((unhide HM4).blk0.cell 0)
          have b4 := (unhide HM4).blk1.below hB hlt1
          have c4W : W.cell? ⟨w.heap.size, 0, none⟩ = some (.bool false) := b4.cell 0
          have f4W := b4.frozen 0
          clear b4
          obtain ⟨ad, rfl, _, _⟩ := ((unhide hbW).below hB) (by omega)
          have hrp : RdB W WB.heap.size (some (ad.add p)) (bs.drop p) := ((unhide hbW).below hB).off p
          have hlp := hre.le.1
          have s1 : (0 : Int) ≤ (p : Int) := by omega
          have s2 : (p : Int) ≤ (bs.length : Int) := by omega
          have s3 : (p : Int) ≤ (c3 : Int) := by omega
          have HR := hide (refTakeUvar_n (bs.drop p) (some (ad.add p)) (bs.length - p) (c3 - p) WB.heap.size W hrp (by simp) (by omega))
          rcases Num.tk_cases (bs.drop p) 0 0 with ⟨n, k, hx⟩ | hx | hx
          · have hx : Num.take (bs.drop p) = (n, k, 0) := hx
            have hk := Num.take_pos hx
            rw [List.length_drop] at hk
            rw [hx] at HR
            have HX := hide hx
            clear hx
            have hcp : ¬ c3 = p := by omega
            by_cases hxe : x.1 = p ∧ x.2 = n
            · obtain ⟨i, m⟩ := x
              obtain ⟨rfl, rfl⟩ := hxe
              gi_wp2_with (refine ⟨trivial, ?_⟩; gi_at_call 12; refine (callsIn_wide.2 (unhide HR)).mono ?_; rintro e w3 ⟨rfl, rfl⟩)
              refine ⟨KeepsOthers.setCell _ _ _, ⟨(Below.refl _ W).setCell (p := ⟨WB.heap.size, 0, none⟩) (Nat.le_refl _) _, Below.heap_setCell _ _ _ _ (by simp)⟩, ⟨_, hre.more (by omega) (unhide HX), (World.cell?_setCell_same' _ _ _ (by rw [hc1]; rfl)).trans (by simp), by rw [World.frozen?_setCell]; exact hf1⟩, hB.setCell (p := ⟨WB.heap.size, 0, none⟩) (Nat.le_refl _) _⟩
            · have HN := hide hxe
              clear hxe
              gi_wp2_with (refine ⟨trivial, ?_⟩; gi_at_call 12; refine (callsIn_wide.2 (unhide HR)).mono ?_; rintro e w3 ⟨rfl, rfl⟩)
              all_goals first
                | exact ⟨KeepsOthers.setCell _ _ _, rfl, fun ⟨q, h⟩ => unhide HN (by
                    obtain ⟨e1, k2, e2⟩ := Num.reach_more hre h
                    rw [unhide HX] at e2
                    simp only [Prod.mk.injEq] at e2
                    exact ⟨e1, e2.1.symm⟩)⟩
                | (exfalso; apply unhide HN; have h3 := ‹((x.2 : Int) != (n : Int)) = false›; simp only [bne_eq_false_iff_eq] at h3; exact ⟨by omega, by omega⟩)
          all_goals
            have HST : Hid (¬ ∃ k, Num.take (bs.drop p) = (x.2, k, 0)) := by
              rintro ⟨k, hk⟩
              rw [show Num.take (bs.drop p) = Num.tk 0 0 (bs.drop p) from rfl, hx] at hk
              simp at hk
            have hx := show Num.take (bs.drop p) = _ from hx
            rw [hx] at HR
            clear hx
            by_cases hcp : c3 = p
            · subst hcp
              have hz : (bs.drop c3).length = 0 := by simp; omega
              have HR2 := hide (refTakeUvar_n (bs.drop c3) (some ad) 0 0 WB.heap.size W (fun h => absurd h (by omega)) hz (by omega))
              have hx2 : Num.take (bs.drop c3) = (0, 0, 2) := by rw [List.eq_nil_of_length_eq_zero hz]; rfl
              rw [hx2] at HR2
              clear hx2 hz
              gi_wp2_with (refine ⟨trivial, ?_⟩; gi_at_call 12; with_reducible refine (CallsIn.inRound l1 (callsIn_wide.2 (unhide HR2))).mono ?_; rintro e w3 ⟨rfl, rfl⟩)
              exact ⟨KeepsOthers.setCell _ _ _, rfl, fun ⟨q, h⟩ => unhide HST (Num.reach_more hre h).2⟩
            · gi_wp2_with (refine ⟨trivial, ?_⟩; gi_at_call 12; with_reducible refine (CallsIn.inRound l1 (callsIn_wide.2 (unhide HR))).mono ?_; rintro e w3 ⟨rfl, rfl⟩)
              exact ⟨KeepsOthers.setCell _ _ _, rfl, fun ⟨q, h⟩ => unhide HST (Num.reach_more hre h).2⟩
        case done =>
          rintro D ys W hD ⟨p, hre, hst⟩ ⟨⟨q, hre2, hc1, hf1⟩, hB⟩ hK
          obtain rfl := hre.uniq hre2
          have c5W : W.cell? ⟨w1.heap.size, 0, none⟩ = some (.slice A3 bs.length c3) := (hB.cell (p := ⟨w1.heap.size, 0, none⟩) hlt0).trans ((unhide HM4).blk0.cell 0)
          have hlp := hre.le.1
          have hD2 : WB.heap.size ≤ D := by
            simp at hD
            omega
          have s1 : (0 : Int) ≤ (p : Int) := by omega
          have s2 : (p : Int) ≤ (bs.length : Int) := by omega
          have s3 : (p : Int) ≤ (c3 : Int) := by omega
          have hx : Num.take (bs.drop p) = (0, 0, 3) ∨ Num.take (bs.drop p) = (0, 0, 2) := by
            rcases Num.tk_cases (bs.drop p) 0 0 with ⟨n, k, h⟩ | h | h
            · rcases hst with hst | hst
              · rw [List.drop_eq_nil_of_le hst]
                exact .inr rfl
              · exact absurd (by rw [show Num.take (bs.drop p) = _ from h]) hst
            · exact .inl h
            · exact .inr h
          rcases own_forms (unhide HO4) with ⟨e, en⟩ | ⟨g, cap, e⟩
          · simp only [Value.slice.injEq] at e
            obtain ⟨rfl, -, rfl⟩ := e
            obtain rfl : p = 0 := by omega
            have HR := hide (refTakeUvar_n (bs.drop 0) none 0 0 WB.heap.size W ((unhide hbW).below hB) (by simpa using en) (by omega))
            rw [en] at c5W
            rcases hx with hx | hx
            all_goals
              rw [hx] at HR
              clear hx
              gi_wp2_with (first
                | (refine ⟨trivial, ?_⟩; gi_at_call 12; with_reducible refine (callsIn_wide.2 (unhide HR)).mono ?_; rintro e w3 ⟨rfl, rfl⟩)
                | (refine ⟨trivial, ?_⟩; gi_at_call 13; refine (callsIn_wide.2 (unhide HA _)).mono ?_; rintro e w3 ⟨rfl, hb3⟩; have HB3 := hide (hB.trans (hb3.mono hB.size)); have HK3 := hide ((hb3.block D (Array.getElem?_eq_some_iff.1 hK).1).trans hK); have b4 := (unhide HM4).blk1.below (unhide HB3) hlt1; have c4W : w3.cell? ⟨w.heap.size, 0, none⟩ = some (.bool false) := b4.cell 0; have f4W := b4.frozen 0; clear b4 hb3))
              all_goals
                have hK' := (KeepsOthers.setCell w3 ⟨w.heap.size, 0, none⟩ (.bool true)).same D _ (unhide HK3) rfl
                refine ⟨by simp, .inl ⟨_, _, rfl, run_takeDeferred hK', ?_⟩⟩
                have hc5 := cell_kept (World.cell?_setCell_same' w3 ⟨w.heap.size, 0, none⟩ (.bool true) (by rw [c4W]; rfl)) (grownBy_putObj' _ D (.deferred none)) (fun r e => by cases e; exact ⟨_, hK', rfl⟩)
                have hB4 := ((unhide HM4).below.trans ((unhide HB3).mono (unhide HM4).size)).setCell (p := ⟨w.heap.size, 0, none⟩) (by simp) (.bool true)
                have hB5 := hB4.trans (belowK_b (w := WB) (unhide HM4).size _ D _ (.deferred none) hD2 hK' rfl rfl)
                exact ⟨.bool true, results_cell_bool rfl Try.underlying4 _ _ ⟨w.heap.size, 0, none⟩ true rfl hc5, rfl, hB5⟩
          · simp only [Value.slice.injEq] at e
            obtain ⟨ad, rfl⟩ : ∃ ad, A3 = some ad := ⟨_, e.1⟩
            clear e
            by_cases hcp : c3 = p
            · subst hcp
              have hz : (bs.drop c3).length = 0 := by simp; omega
              have HR := hide (refTakeUvar_n (bs.drop c3) (some ad) 0 0 WB.heap.size W (fun h => absurd h (by omega)) hz (by omega))
              rcases hx with hx | hx
              all_goals
                rw [hx] at HR
                clear hx
                gi_wp2_with (first
                  | (refine ⟨trivial, ?_⟩; gi_at_call 12; with_reducible refine (callsIn_wide.2 (unhide HR)).mono ?_; rintro e w3 ⟨rfl, rfl⟩)
                  | (refine ⟨trivial, ?_⟩; gi_at_call 13; refine (callsIn_wide.2 (unhide HA _)).mono ?_; rintro e w3 ⟨rfl, hb3⟩; have HB3 := hide (hB.trans (hb3.mono hB.size)); have HK3 := hide ((hb3.block D (Array.getElem?_eq_some_iff.1 hK).1).trans hK); have b4 := (unhide HM4).blk1.below (unhide HB3) hlt1; have c4W : w3.cell? ⟨w.heap.size, 0, none⟩ = some (.bool false) := b4.cell 0; have f4W := b4.frozen 0; clear b4 hb3))
                all_goals
                  have hK' := (KeepsOthers.setCell w3 ⟨w.heap.size, 0, none⟩ (.bool true)).same D _ (unhide HK3) rfl
                  refine ⟨by simp, .inl ⟨_, _, rfl, run_takeDeferred hK', ?_⟩⟩
                  have hc5 := cell_kept (World.cell?_setCell_same' w3 ⟨w.heap.size, 0, none⟩ (.bool true) (by rw [c4W]; rfl)) (grownBy_putObj' _ D (.deferred none)) (fun r e => by cases e; exact ⟨_, hK', rfl⟩)
                  have hB4 := ((unhide HM4).below.trans ((unhide HB3).mono (unhide HM4).size)).setCell (p := ⟨w.heap.size, 0, none⟩) (by simp) (.bool true)
                  have hB5 := hB4.trans (belowK_b (w := WB) (unhide HM4).size _ D _ (.deferred none) hD2 hK' rfl rfl)
                  exact ⟨.bool true, results_cell_bool rfl Try.underlying4 _ _ ⟨w.heap.size, 0, none⟩ true rfl hc5, rfl, hB5⟩
            · skip
              have hrp : RdB W WB.heap.size (some (ad.add p)) (bs.drop p) := ((unhide hbW).below hB).off p
              have HR := hide (refTakeUvar_n (bs.drop p) (some (ad.add p)) (bs.length - p) (c3 - p) WB.heap.size W hrp (by simp) (by omega))
              rcases hx with hx | hx
              all_goals
                rw [hx] at HR
                clear hx
                gi_wp2_with (first
                  | (refine ⟨trivial, ?_⟩; gi_at_call 12; with_reducible refine (callsIn_wide.2 (unhide HR)).mono ?_; rintro e w3 ⟨rfl, rfl⟩)
                  | (refine ⟨trivial, ?_⟩; gi_at_call 13; refine (callsIn_wide.2 (unhide HA _)).mono ?_; rintro e w3 ⟨rfl, hb3⟩; have HB3 := hide (hB.trans (hb3.mono hB.size)); have HK3 := hide ((hb3.block D (Array.getElem?_eq_some_iff.1 hK).1).trans hK); have b4 := (unhide HM4).blk1.below (unhide HB3) hlt1; have c4W : w3.cell? ⟨w.heap.size, 0, none⟩ = some (.bool false) := b4.cell 0; have f4W := b4.frozen 0; clear b4 hb3))
                all_goals
                  have hK' := (KeepsOthers.setCell w3 ⟨w.heap.size, 0, none⟩ (.bool true)).same D _ (unhide HK3) rfl
                  refine ⟨by simp, .inl ⟨_, _, rfl, run_takeDeferred hK', ?_⟩⟩
                  have hc5 := cell_kept (World.cell?_setCell_same' w3 ⟨w.heap.size, 0, none⟩ (.bool true) (by rw [c4W]; rfl)) (grownBy_putObj' _ D (.deferred none)) (fun r e => by cases e; exact ⟨_, hK', rfl⟩)
                  have hB4 := ((unhide HM4).below.trans ((unhide HB3).mono (unhide HM4).size)).setCell (p := ⟨w.heap.size, 0, none⟩) (by simp) (.bool true)
                  have hB5 := hB4.trans (belowK_b (w := WB) (unhide HM4).size _ D _ (.deferred none) hD2 hK' rfl rfl)
                  exact ⟨.bool true, results_cell_bool rfl Try.underlying4 _ _ ⟨w.heap.size, 0, none⟩ true rfl hc5, rfl, hB5⟩
end Go.Proofs.Ytbiinlkdgankkaa
