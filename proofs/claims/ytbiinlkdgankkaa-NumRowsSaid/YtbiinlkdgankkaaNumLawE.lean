/- The walk of NumLeaves. -/
import Derived.Test.YtbiinlkdgankkaaNumRowsMath
import Derived.Test.YtbiinlkdgankkaaMemIn
import Derived.Test.YtbiinlkdgankkaaKnown
import Derived.Test.YtbiinlkdgankkaaFrame
namespace Go.Proofs.Ytbiinlkdgankkaa
open Go.RowKit Go.Shelf
set_option linter.unusedVariables false
attribute [local go_sem] Oper.semAt_some

/-- the cells of a row of 64-bit numbers -/
def RdU (w : World) (B : Nat) (A : Option Addr) (l : List Nat) : Prop :=
  0 < l.length → ∃ ad, A = some ad ∧ ad.block < B ∧ ∀ (j n : Nat), l[j]? = some n → w.cell? (ad.add j) = some (.int .u64 (n : Int))
theorem RdU.below {w w' : World} {B : Nat} {A : Option Addr} {l : List Nat} (h : RdU w B A l) (hb : Below B w w') : RdU w' B A l := fun hn => by
  obtain ⟨ad, e, hB, hc⟩ := h hn
  exact ⟨ad, e, hB, fun j n hj => (hb.cell (p := ad.add j) (by rw [block_of_add]; exact hB)).trans (hc j n hj)⟩

theorem Came.u64s {H : Type} {enc : TypeId × Value → H} {P : Program} {W : World} {k : DataW H → Prop} {t e : TypeId} {v : Value} (ht : P.underlying t = some (.slice e)) (he : P.underlying e = some (.int .u64)) (hc : P.cellsOf e = 1) (h : Came enc P W k t v) :
    ∃ (A : Option Addr) (l : List Nat) (c : Nat), v = .slice A l.length c ∧ l.length ≤ c ∧ c * P.bytesOf e ≤ 140737488351232 ∧ (∀ n ∈ l, n < 18446744073709551616) ∧ RdU W W.heap.size A l ∧ (l = [] ∨ ∃ el sp, el.length = l.length ∧ k (.slice el sp)) := by
  obtain ⟨A, l, c, rfl, h1, h2, _, ⟨hw, h3⟩, h6⟩ := h.intsK ht he hc
  have hlt : ∀ n ∈ l, 0 ≤ n ∧ n.toNat < 18446744073709551616 := fun n hn => by
    have w := hw n hn
    simp [Lit.wf, IntKind.min, IntKind.max, IntKind.signed, IntKind.bits] at w
    omega
  refine ⟨A, l.map Int.toNat, c, by simp, by simpa using h1, h2, fun n hn => ?_, fun hpos => ?_, ?_⟩
  · obtain ⟨m, hm, rfl⟩ := List.mem_map.1 hn
    exact (hlt m hm).2
  · obtain ⟨ad, e1, e2, e3⟩ := h3 (by simpa using hpos)
    refine ⟨ad, e1, e2, fun j n hj => ?_⟩
    rw [List.getElem?_map, Option.map_eq_some_iff] at hj
    obtain ⟨m, hm, rfl⟩ := hj
    rw [e3 j m hm, Int.toNat_of_nonneg (hlt m (List.mem_of_getElem? hm)).1]
  · rcases h6 with rfl | ⟨el, sp, he, hk⟩
    · exact .inl rfl
    · exact .inr ⟨el, sp, by simpa using he, hk⟩
theorem cell_lt {w : World} {g i : Nat} {v : Value} (h : w.cell? ⟨g, i, none⟩ = some v) : g < w.heap.size := by
  rcases Nat.lt_or_ge g w.heap.size with hlt | hge
  · exact hlt
  · unfold World.cell? at h
    simp [Array.getElem?_eq_none hge] at h
theorem blk_new' (w : World) (o : Obj) (t : TypeId) (cs : Array Value) : Blk ((w.alloc o).alloc (.cells cs t)) (w.heap.size + 1) t cs := by
  have h := Blk.new (w.alloc o) t cs
  have e : (w.alloc o).heap.size = w.heap.size + 1 := by simp
  rw [e] at h
  exact h
set_option maxRecDepth 100000 in
set_option maxHeartbeats 2000000 in
theorem numLeaves_any (l : List Nat) (hl : ∀ n ∈ l, n < 18446744073709551616) (A : Option Addr) (c : Nat) (hlc : l.length ≤ c) (hc : c ≤ 140737488351232) (most : Int) (w : World) (hr : RdU w w.heap.size A l) :
    Calls Try.prog 6 #[.slice A l.length c, .int .i64 most] w fun e w' => e = .returned (.bool true) ∧ Below w.heap.size w w' := by
  have HA := hide awake_any
  refine (callsIn_wide (n := 6)).1 ?_
  refine callsIn_of_wp_marks Try.func6 rfl trivial ?_ rfl
  simp only [Try.ntmps6, List.size_toArray, List.length_cons, List.length_nil, Nat.reduceAdd, Nat.reduceSub, Array.replicate_succ, Array.replicate_zero, List.push_toArray, List.append_toArray, List.nil_append, List.cons_append]
  have HM0 := hide ((((Mem.start w).new (t := 32) (cs := #[.slice A l.length c]) w.heap.size rfl).new (t := 3) (cs := #[.int .i64 most]) (w.heap.size + 1) (by simp)).new (t := 4) (cs := #[.bool false]) (w.heap.size + 1 + 1) (by simp))
  by_cases hbig : 10000 < l.length
  · gi_wp2_with (refine ⟨trivial, ?_⟩; gi_at_call 13; refine (callsIn_wide.2 (unhide HA _)).mono ?_; rintro e w1 ⟨rfl, hb1⟩; have HM0 := hide ((unhide HM0).called hb1); clear hb1; have c0 : w1.cell? ⟨w.heap.size, 0, none⟩ = some (.slice A l.length c) := (unhide HM0).blk2.cell 0; have f4 := (unhide HM0).blk0.frozen 0; have c4 : w1.cell? ⟨w.heap.size + 1 + 1, 0, none⟩ = some (.bool false) := (unhide HM0).blk0.cell 0)
    have HM1 := hide ((unhide HM0).set0 (i := 0) (v := .bool true))
    have hc5 : (w1.setCell ⟨w.heap.size + 1 + 1, 0, none⟩ (.bool true)).cell? ⟨w.heap.size + 1 + 1, 0, none⟩ = some (.bool true) := (unhide HM1).blk0.cell 0
    refine ⟨.bool true, ?_, rfl, (unhide HM1).below⟩
    simp [results, Try.f6, go_sem, hc5]
  · gi_wp2_with (refine ⟨trivial, ?_⟩; gi_at_call 13; refine (callsIn_wide.2 (unhide HA _)).mono ?_; rintro e w1 ⟨rfl, hb1⟩; have HM1 := hide ((unhide HM0).called hb1); clear hb1; have c0 : w1.cell? ⟨w.heap.size, 0, none⟩ = some (.slice A l.length c) := (unhide HM1).blk2.cell 0)
    obtain ⟨i0, hi, hz0, hz1, hz2⟩ := info_parts u8info
    gi_loopw [5, 19] (fun s i wr => ∃ (k : Nat) (A' : Option Addr) (c' : Nat), k ≤ l.length ∧ i = .int .i64 k ∧ s = .slice A' (Num.rows (l.take k)).length c' ∧ wr.ownsRow w1.heap.size 5 1 (.slice A' (Num.rows (l.take k)).length c') (Num.rows (l.take k)).length ((Num.rows (l.take k)).map Bv) ∧ (Num.rows (l.take k)).length ≤ c' ∧ Below w1.heap.size w1 wr) (fun _ i _ => l.length - (intOf i).toNat)
    case atStart => exact ⟨0, none, 0, Nat.zero_le _, rfl, rfl, own_nil _ _ _ _, Nat.le_refl _, Below.refl _ _⟩
    case round =>
      obtain ⟨k, A', c', hk, rfl, rfl, hown, hcc, hbel⟩ := hrel
      by_cases hlt : k < l.length
      · have HS := hide (Num.rows_succ l hlt)
        have hwr : Below w.heap.size w wr := (unhide HM1).below.trans (hbel.mono (unhide HM1).size)
        obtain ⟨ad, hA, hB, hcl⟩ := (hr.below hwr) (by omega)
        subst hA
        have c1 := hcl k l[k] (List.getElem?_eq_getElem hlt)
        have hn64 := hl _ (List.getElem_mem hlt)
        have HU := hide (fun w => uvar_any l[k] w hn64)
        have b1 := Num.rows_len (l.take k) (fun n hn => hl n (List.mem_of_mem_take hn))
        have b2 := Num.uv_len64 hn64
        rw [List.length_take] at b1
        have b3 : (Num.rows (l.take k)).length + (Num.uv l[k]).length ≤ 100010 := by omega
        have HO := hide hown
        have HE := hide hbel
        clear hcl hwr b1 b2 hown hbel hn64
        gi_wp2_with (first
          | (refine ⟨trivial, ?_⟩; gi_at_call 15; refine (callsIn_wide.2 (unhide HU wr)).mono ?_; rintro e w2 ⟨A2, c2, rfl, hown2, hbel2, hcc2⟩
             have HO2 := hide (own_below (unhide HO) hbel2 (fun k hk => ((unhide HO).lt k hk).2)); have HR2 := hide (RdV.of_own hown2); have HE2 := hide ((unhide HE).trans (hbel2.mono (unhide HE).size)); clear hown2 hbel2 hcc2)
          | (gi_at_builtin
             refine wpListIn_append_any _ rfl (.tmp 23) (.tmp 25) _ rfl w1.heap.size 5 i0 _ 1 1 Try.underlying23 hi hz0 hz1 hz2 rfl (by omega) _ (Num.rows (l.take k)).length _ rfl
               (unhide HO2) _ A2 (Num.uv l[k]).length c2 ((Num.uv l[k]).map Bv) rfl (unhide HR2) (by simp) oneCell_Bv (by simp only [maxLen]; omega) (by omega) (unhide HE2).size ?_
             intro A3 c3 w3 hown3 hg3 hat3 hbel3 hcc3; have HO3 := hide hown3; have HE3 := hide ((unhide HE2).trans hbel3); clear hown3 hg3 hat3 hbel3))
        refine ⟨⟨k + 1, A3, c3, by omega, by go_num, by rw [unhide HS, List.length_append], by rw [unhide HS, List.length_append, List.map_append]; exact unhide HO3, by rw [unhide HS, List.length_append]; exact hcc3, unhide HE3⟩, by simp [intOf]; omega⟩
      · obtain rfl : k = l.length := by omega
        rw [List.take_length] at hown hcc
        have HO := hide hown
        have HE := hide hbel
        clear hown hbel
        rw [List.take_length]
        gi_wp2_with (refine ⟨trivial, ?_⟩; gi_at_call 17; refine (uvars_in Fence.wide 5 trivial rfl _ _ _ _).mono ?_; rintro e w2 ⟨rfl, rfl⟩)
        have hsz := (unhide HE).size
        have hM : Mem w wr _ := (unhide HM1).called (unhide HE)
        have hMr := hide hM
        have hlt0 := hM.blk2.lt
        have hlt1 := hM.blk1.lt
        have hlt2 := hM.blk0.lt
        clear hM
        have hrows := Num.rows_len l hl
        have hc9 := own_cap (unhide HO)
        refine wpIn_rangeFunc_ownF rfl (by omega) (gf := 26) (lb := #[.pointer (some ⟨wr.heap.size + 1, 0, none⟩)]) rfl trivial (enters_of Try.func26 (by kernel_rfl) rfl)
          (uvars_stops 5 (by omega) (wr.heap.size + 1) wr.heap.size (Num.rows l) A' c' hcc (by omega) hc9 _ (by simp) (by simp; omega) ?hc ?hr) KeepU.t (KeepU.b (by simp; omega) (by simp)) (Below.refl _ _) (fun _ => rfl)
          (fun pre W => (W.cell? ⟨wr.heap.size, 0, none⟩ = some (.int .i64 (pre.length : Int)) ∧ W.frozen? ⟨wr.heap.size, 0, none⟩ = false ∧ pre.map (·.2) = l.take pre.length ∧ pre.length ≤ l.length) ∧ Below wr.heap.size wr W)
          (fun c pre W => c = .ret ∧ ¬ (pre.map (·.2) = l.take pre.length ∧ pre.length ≤ l.length) ∨ c = .exit 2 ∧ (W.cell? ⟨wr.heap.size, 0, none⟩ = some (.int .i64 most)) ∧ Below wr.heap.size wr W)
          ?hI ?hIx ?h0 ?a1 ?assign ?body ?done ?stop
        case assign =>
          intro l1 x W K hK
          gi_wp2
          exact hK
        case hc => exact ((blk_new' wr _ 23 _)).cell 0
        case hr => exact ((RdB.of_own (unhide HO)).alloc (Nat.le_refl _) _).alloc (by simp) _
        case h0 => exact ⟨⟨(Blk.new wr _ _).alloc _ |>.cell 0, (Blk.new wr _ _).alloc _ |>.frozen 0, rfl, Nat.zero_le _⟩, ((Below.refl _ _).alloc (Nat.le_refl _) _).alloc (by simp) _⟩
        case hI => exact OwnFrom.and (Own.from (fun s A B row hs hg hr => ⟨cell_kept hs.1 hg hr, (frozen_kept hs.1 hg hr).trans hs.2.1, hs.2.2⟩) _) (ownFrom_below (Nat.le_refl _) (by simp; omega))
        case hIx =>
          intro c s A B row hs hg hr
          have h2 := ownFrom_below (β := List (Nat × Nat)) (w₀ := wr) (Nat.le_refl wr.heap.size) (show wr.heap.size ≤ ((wr.alloc (Obj.cells #[Value.int IntKind.i64 0] 3)).alloc (Obj.cells #[Value.slice A' (Num.rows l).length c'] 23)).heap.size by simp; omega)
          rcases hs with hs | ⟨hk, hcl, hB⟩
          · exact .inl hs
          · exact .inr ⟨hk, cell_kept hcl hg (fun r e => (hr r e).2), h2 s A B row hB hg hr⟩
        case body =>
          rintro l1 pre x W ⟨⟨hc1, hf1, hpm, hpl⟩, hB⟩ _
          have c0W : W.cell? ⟨w.heap.size, 0, none⟩ = some (.slice A l.length c) := (hB.cell (p := ⟨w.heap.size, 0, none⟩) hlt0).trans ((unhide hMr).blk2.cell 0)
          have c3W : W.cell? ⟨w.heap.size + 1, 0, none⟩ = some (.int .i64 most) := (hB.cell (p := ⟨w.heap.size + 1, 0, none⟩) hlt1).trans ((unhide hMr).blk1.cell 0)
          have b4 := (unhide hMr).blk0.below hB hlt2
          have c4W : W.cell? ⟨w.heap.size + 1 + 1, 0, none⟩ = some (.bool false) := b4.cell 0
          have f4W := b4.frozen 0
          clear b4
          by_cases hm : (pre.length : Int) = most
          · have fe : ((pre.length : Int) == most) = true := beq_iff_eq.2 hm
            gi_wp2
            exact ⟨KeepsOthers.refl _, .inr ⟨rfl, by rw [hc1, hm], hB⟩⟩
          · have fe : ((pre.length : Int) == most) = false := beq_eq_false_iff_ne.2 hm
            by_cases hlp : pre.length < l.length
            · have hwW : Below w.heap.size w W := (unhide hMr).below.trans (hB.mono (unhide hMr).size)
              obtain ⟨ad, hA, _, hcl⟩ := (hr.below hwW) (by omega)
              subst hA
              have c5 := hcl pre.length l[pre.length] (List.getElem?_eq_getElem hlp)
              by_cases hx : (x.2 : Int) = (l[pre.length] : Int)
              · have fx : ((x.2 : Int) != (l[pre.length] : Int)) = false := by simp [hx]
                gi_wp2
                refine ⟨KeepsOthers.setCell _ _ _, ⟨(Below.refl _ W).setCell (p := ⟨wr.heap.size, 0, none⟩) (Nat.le_refl _) _, Below.heap_setCell _ _ _ _ (by simp)⟩, ⟨?_, by rw [World.frozen?_setCell]; exact hf1, ?_, by simp; omega⟩, hB.setCell (p := ⟨wr.heap.size, 0, none⟩) (Nat.le_refl _) _⟩
                · rw [List.length_append, List.length_singleton]
                  exact World.cell?_setCell_same' _ _ _ (by rw [hc1]; rfl)
                · rw [List.map_append, hpm, List.length_append, List.length_singleton, List.take_add_one, List.getElem?_eq_getElem hlp]
                  have : x.2 = l[pre.length] := by omega
                  simp [this]
              · have fx : ((x.2 : Int) != (l[pre.length] : Int)) = true := by simp [hx]
                gi_wp2
                refine ⟨KeepsOthers.setCell _ _ _, .inl ⟨rfl, fun h => ?_⟩⟩
                have h1 := h.1
                rw [List.map_append, hpm, List.length_append, List.length_singleton, List.take_add_one, List.getElem?_eq_getElem hlp] at h1
                have h2 : x.2 = l[pre.length] := by simpa using List.append_cancel_left h1
                exact hx (by rw [h2])
            · gi_wp2
              refine ⟨KeepsOthers.setCell _ _ _, .inl ⟨rfl, fun h => ?_⟩⟩
              have h1 := h.2
              simp at h1
              omega
        case done =>
          rintro D ys W hD ⟨p, hre, hst⟩ ⟨⟨hc1, hf1, hpm, hpl⟩, hB⟩ hK
          have hlen := Num.stops_rows hl hre hst
          rw [hlen] at hc1
          have fe1 : ((l.length : Int) == (l.length : Int)) = true := beq_self_eq_true _
          gi_wp2_with (refine ⟨trivial, ?_⟩; gi_at_call 13; refine (callsIn_wide.2 (unhide HA _)).mono ?_; rintro e w3 ⟨rfl, hb3⟩; have hB3 := hB.trans (hb3.mono hB.size); have hK3 := (hb3.block D (Array.getElem?_eq_some_iff.1 hK).1).trans hK; have HK3 := hide hK3; have HB3 := hide hB3; have b0 := (unhide hMr).blk2.below hB3 hlt0; have c0W : w3.cell? ⟨w.heap.size, 0, none⟩ = some (.slice A l.length c) := b0.cell 0; have b1 := (unhide hMr).blk1.below hB3 hlt1; have c3W : w3.cell? ⟨w.heap.size + 1, 0, none⟩ = some (.int .i64 most) := b1.cell 0; have b4 := (unhide hMr).blk0.below hB3 hlt2; have c4W : w3.cell? ⟨w.heap.size + 1 + 1, 0, none⟩ = some (.bool false) := b4.cell 0; have f4W := b4.frozen 0; have t1 : w3.cell? ⟨wr.heap.size, 0, none⟩ = W.cell? ⟨wr.heap.size, 0, none⟩ := hb3.cell (p := ⟨wr.heap.size, 0, none⟩) (cell_lt hc1); rw [hc1] at t1; clear hB3 hK3 b0 b1 b4 hb3)
          all_goals
            have hK' := (KeepsOthers.setCell w3 ⟨w.heap.size + 1 + 1, 0, none⟩ (.bool true)).same D _ (unhide HK3) rfl
            refine ⟨by simp, .inl ⟨_, _, rfl, run_takeDeferred hK', ?_⟩⟩
            have hc5 := cell_kept (World.cell?_setCell_same' w3 ⟨w.heap.size + 1 + 1, 0, none⟩ (.bool true) (by rw [c4W]; rfl)) (grownBy_putObj' _ D (.deferred none)) (fun r e => by cases e; exact ⟨_, hK', rfl⟩)
            have hB4 := ((unhide hMr).below.trans ((unhide HB3).mono (unhide hMr).size)).setCell (p := ⟨w.heap.size + 1 + 1, 0, none⟩) (by simp; omega) (.bool true)
            have hB5 := hB4.trans (belowK_b (w := wr) (unhide hMr).size _ D _ (.deferred none) (by simp at hD; omega) hK' rfl rfl)
            refine ⟨.bool true, ?_, rfl, hB5⟩
            simp [results, Try.f6, go_sem, hc5]
        case stop =>
          rintro D cd pre W hD ⟨p, hre⟩ hix hK
          obtain ⟨r1, _, r3⟩ := Num.reach_rows hl hre
          rcases hix with ⟨_, hn⟩ | ⟨rfl, hc1, hB⟩
          · exact absurd ⟨r3, r1⟩ hn
          · have fe2 : (most == most) = true := beq_self_eq_true _
            gi_wp2_with (refine ⟨trivial, ?_⟩; gi_at_call 13; refine (callsIn_wide.2 (unhide HA _)).mono ?_; rintro e w3 ⟨rfl, hb3⟩; have hB3 := hB.trans (hb3.mono hB.size); have hK3 := (hb3.block D (Array.getElem?_eq_some_iff.1 hK).1).trans hK; have HK3 := hide hK3; have HB3 := hide hB3; have b0 := (unhide hMr).blk2.below hB3 hlt0; have c0W : w3.cell? ⟨w.heap.size, 0, none⟩ = some (.slice A l.length c) := b0.cell 0; have b1 := (unhide hMr).blk1.below hB3 hlt1; have c3W : w3.cell? ⟨w.heap.size + 1, 0, none⟩ = some (.int .i64 most) := b1.cell 0; have b4 := (unhide hMr).blk0.below hB3 hlt2; have c4W : w3.cell? ⟨w.heap.size + 1 + 1, 0, none⟩ = some (.bool false) := b4.cell 0; have f4W := b4.frozen 0; have t1 : w3.cell? ⟨wr.heap.size, 0, none⟩ = W.cell? ⟨wr.heap.size, 0, none⟩ := hb3.cell (p := ⟨wr.heap.size, 0, none⟩) (cell_lt hc1); rw [hc1] at t1; clear hB3 hK3 b0 b1 b4 hb3)
            all_goals
              have hK' := (KeepsOthers.setCell w3 ⟨w.heap.size + 1 + 1, 0, none⟩ (.bool true)).same D _ (unhide HK3) rfl
              refine ⟨by simp, .inl ⟨_, _, rfl, run_takeDeferred hK', ?_⟩⟩
              have hc5 := cell_kept (World.cell?_setCell_same' w3 ⟨w.heap.size + 1 + 1, 0, none⟩ (.bool true) (by rw [c4W]; rfl)) (grownBy_putObj' _ D (.deferred none)) (fun r e => by cases e; exact ⟨_, hK', rfl⟩)
              have hB4 := ((unhide hMr).below.trans ((unhide HB3).mono (unhide hMr).size)).setCell (p := ⟨w.heap.size + 1 + 1, 0, none⟩) (by simp; omega) (.bool true)
              have hB5 := hB4.trans (belowK_b (w := wr) (unhide hMr).size _ D _ (.deferred none) (by simp at hD; omega) hK' rfl rfl)
              refine ⟨.bool true, ?_, rfl, hB5⟩
              simp [results, Try.f6, go_sem, hc5]
end Go.Proofs.Ytbiinlkdgankkaa
