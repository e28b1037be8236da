/- The walk of FrameScans. -/
import Derived.Test.YtjlmcjegfbnhpaaFrmIter
import Derived.Test.YtjlmcjegfbnhpaaFrmSame
import Derived.Test.YtjlmcjegfbnhpaaFrmRefPack
import Derived.Test.YtjlmcjegfbnhpaaFrmLawA
import Derived.Test.YtjlmcjegfbnhpaaMemBig
import Derived.Test.YtjlmcjegfbnhpaaOpenRow
namespace Go.Proofs.Ytjlmcjegfbnhpaa
open Go.RowKit Go.Shelf
set_option linter.unusedVariables false
attribute [local go_sem] Oper.semAt_some

/-- frames that came in: which, where the body lies, what room it has -/
abbrev Fr := Frm.F × Option Addr × Nat
def InFr (w : World) (B : Nat) (A : Option Addr) (r : List Fr) : Prop :=
  ∀ (i : Nat) (x : Fr), r[i]? = some x → ∃ ad : Addr, A = some ad ∧ ad.block < B ∧ w.cell? (ad.add (i * 5)) = some (.int .i64 x.1.ver) ∧ w.cell? (ad.add (i * 5 + 1)) = some (.int .i64 x.1.epoch) ∧ w.cell? (ad.add (i * 5 + 2)) = some (.int .i64 x.1.seq) ∧
    w.cell? (ad.add (i * 5 + 3)) = some (.int .i64 x.1.ack) ∧ w.cell? (ad.add (i * 5 + 4)) = some (.slice x.2.1 x.1.body.length x.2.2) ∧ RdB w B x.2.1 x.1.body ∧ x.1.body.length ≤ x.2.2 ∧ x.2.2 ≤ 140737488351232
theorem InFr.below {w w' : World} {B : Nat} {A : Option Addr} {r : List Fr} (h : InFr w B A r) (hb : Below B w w') : InFr w' B A r := fun i x hx => by
  obtain ⟨ad, e, hl, h0, h1, h2, h3, h4, h5, h6⟩ := h i x hx
  exact ⟨ad, e, hl, (hb.cell (p := ad.add _) (by rw [block_of_add]; exact hl)).trans h0, (hb.cell (p := ad.add _) (by rw [block_of_add]; exact hl)).trans h1, (hb.cell (p := ad.add _) (by rw [block_of_add]; exact hl)).trans h2, (hb.cell (p := ad.add _) (by rw [block_of_add]; exact hl)).trans h3, (hb.cell (p := ad.add _) (by rw [block_of_add]; exact hl)).trans h4, h5.below hb, h6⟩
theorem refFirst_n (l : List UInt8) (A : Option Addr) (n c B : Nat) (w : World) (hr : RdB w B A l) (hB : B ≤ w.heap.size) (hn : l.length = n) (hlc : n ≤ c) (hc : c ≤ 9223372036854775807) :
    Calls Try.prog 18 #[.slice A n c] w (FreshF w (Frm.first l)) := by
  subst hn
  exact refFirst_any l A c B w hr hB hlc hc
theorem results_cell_bool {P : Program} {fn : Func} {p : Tmp} {ty : TypeId} (h : fn.results = #[.cell p ty]) (hu : P.underlying ty = some .bool) (tmps : Array Value) (w : World) (ad : Addr) (b : Bool)
    (hp : tmps.getD p undef = .pointer (some ad)) (hc : w.cell? ad = some (.bool b)) : (results fn tmps).run P w = .ok (.bool b) w := by
  have hp' : tmps[p]?.getD undef = .pointer (some ad) := by simpa using hp
  simp [results, h, hp', isAgg, run_underlying hu, go_sem, hc]
theorem own_forms {w : World} {base size n : Nat} {e : TypeId} {v : Value} {xs : List Value} (h : w.ownsRow base e size v n xs) : (v = .slice none 0 0 ∧ n = 0) ∨ ∃ g cap, v = .slice (some ⟨g, 0, none⟩) n cap := by
  rcases h.2 with h0 | ⟨g, cap, _, hv, _⟩
  · exact .inl h0
  · exact .inr ⟨g, cap, hv⟩
theorem Frm.pack_len (f : Frm.F) (h : f.body.length ≤ 1000) : (Frm.pack f).1.length ≤ 1021 := by
  unfold Frm.pack
  split
  · simp
  · split
    · simp
    · simp only [Frm.whole_len, Frm.plain_len]
      omega

theorem blk_new' (w : World) (o : Obj) (t : TypeId) (cs : Array Value) : Blk ((w.alloc o).alloc (.cells cs t)) (w.heap.size + 1) t cs := by
  have h := Blk.new (w.alloc o) t cs
  have e : (w.alloc o).heap.size = w.heap.size + 1 := by simp
  rw [e] at h
  exact h
set_option maxRecDepth 100000 in
set_option maxHeartbeats 4000000 in
theorem frameScans_any (l : List Fr) (A : Option Addr) (c : Nat) (hlc : l.length ≤ c) (hc : c ≤ 9223372036854775807) (tl : List UInt8) (B : Option Addr) (cb : Nat) (htc : tl.length ≤ cb) (hcb : cb ≤ 140737488351232)
    (w : World) (hr : InFr w w.heap.size A l) (ht : RdB w w.heap.size B tl) :
    Calls Try.prog 9 #[.slice A l.length c, .slice B tl.length cb] w fun e w' => e = .returned (.bool true) ∧ Below w.heap.size w w' := by
  have HA := hide awake_any
  refine (callsIn_wide (n := 6)).1 ?_
  refine callsIn_of_wp_marks Try.func9 rfl trivial ?_ rfl
  simp only [Try.ntmps9, List.size_toArray, List.length_cons, List.length_nil, Nat.reduceAdd, Nat.reduceSub, Array.replicate_succ, Array.replicate_zero, List.push_toArray, List.append_toArray, List.nil_append, List.cons_append]
  have HM0 := hide ((Mem.start w).new (t := 4) (cs := #[.bool false]) w.heap.size rfl)
  gi_wp2_with (refine ⟨trivial, ?_⟩; gi_at_call 12; refine (callsIn_wide.2 (unhide HA _)).mono ?_; rintro e w1 ⟨rfl, hb1⟩; have HM1 := hide ((unhide HM0).called hb1); clear hb1)
  have HM2 := hide ((unhide HM1).new (t := 22) (cs := #[.slice none 0 0]) w1.heap.size rfl)
  obtain ⟨i0, hi, hz0, hz1, hz2⟩ := info_parts u8info
  have hw1 := (unhide HM1).size
  have hN := (unhide HM1).blk0.lt
  gi_loopw [23] (fun i wr => ∃ (k : Nat) (bs : List UInt8) (A' : Option Addr) (c' : Nat), k ≤ l.length ∧ k ≤ 40 ∧ i = .int .i64 k ∧ Mem w wr [(w1.heap.size, 22, #[.slice A' bs.length c']), (w.heap.size, 4, #[.bool false])] ∧
      wr.ownsRow (w1.heap.size + 1) 5 1 (.slice A' bs.length c') bs.length (bs.map Bv) ∧ bs.length ≤ c' ∧ bs.length ≤ 1021 * k ∧ w1.heap.size + 1 ≤ wr.heap.size) (fun i _ => l.length - (intOf i).toNat)
  case atStart => exact ⟨0, [], none, 0, by omega, by omega, rfl, unhide HM2, own_nil _ _ _ _, Nat.le_refl _, by simp, by simp⟩
  case round =>
    obtain ⟨k, bs, A', c', hk, hk40, rfl, hmem, hown, hcc, hbl, hsz⟩ := hrel
    by_cases hlt : k < l.length
    · obtain ⟨x, hx⟩ : ∃ x, l[k]? = some x := ⟨l[k], List.getElem?_eq_getElem hlt⟩
      obtain ⟨ad, hA, hB, c0, c1, c2, c3, c4, hrx, hxc, hxc2⟩ := (hr.below hmem.below) k x hx
      subst hA
      have HX := hide hx
      have HM := hide hmem
      have HO := hide hown
      rw [← Addr.add_add] at c1 c2 c3 c4
      have e1 : wr.cell? ⟨(ad.add (k * 5)).block, (ad.add (k * 5)).off + 1, none⟩ = some (.int .i64 x.1.epoch) := c1
      have e2 : wr.cell? ⟨(ad.add (k * 5)).block, (ad.add (k * 5)).off + 2, none⟩ = some (.int .i64 x.1.seq) := c2
      have e3 : wr.cell? ⟨(ad.add (k * 5)).block, (ad.add (k * 5)).off + 3, none⟩ = some (.int .i64 x.1.ack) := c3
      have e4 : wr.cell? ⟨(ad.add (k * 5)).block, (ad.add (k * 5)).off + 4, none⟩ = some (.slice x.2.1 x.1.body.length x.2.2) := c4
      have HMx := hide ((unhide HM).new (t := 24) (cs := #[.int .i64 x.1.ver, .int .i64 x.1.epoch, .int .i64 x.1.seq, .int .i64 x.1.ack, .slice x.2.1 x.1.body.length x.2.2]) wr.heap.size rfl)
      have fcx := Frm.cellsAt (unhide HMx).blk0
      clear hmem hown hx
      by_cases h40 : k = 40
      · have g40 : ((k : Int) == 40) = true := beq_iff_eq.2 (by omega)
        clear h40
        gi_wp2_with (refine ⟨trivial, ?_⟩; gi_at_call 12; refine (callsIn_wide.2 (unhide HA _)).mono ?_; rintro e w3 ⟨rfl, hb3⟩; have HM3 := hide ((unhide HMx).called hb3).tail; clear hb3; have c6 := (unhide HM3).blk1.cell 0; have f6 := (unhide HM3).blk1.frozen 0)
        have HM4 := hide ((unhide HM3).set1 (i := 0) (v := .bool true))
        have hc7 : (w3.setCell ⟨w.heap.size, 0, none⟩ (.bool true)).cell? ⟨w.heap.size, 0, none⟩ = some (.bool true) := (unhide HM4).blk1.cell 0
        refine ⟨.bool true, results_cell_bool rfl Try.underlying4 _ _ ⟨w.heap.size, 0, none⟩ true rfl hc7, rfl, (unhide HM4).below⟩
      · have g40 : ((k : Int) == 40) = false := beq_eq_false_iff_ne.2 (by omega)
        by_cases hlong : 1000 < x.1.body.length
        · have g41 : (1000 : Int) < (x.1.body.length : Int) := by omega
          gi_wp2_with (refine ⟨trivial, ?_⟩; gi_at_call 12; refine (callsIn_wide.2 (unhide HA _)).mono ?_; rintro e w3 ⟨rfl, hb3⟩; have HM3 := hide ((unhide HMx).called hb3).tail; clear hb3; have c6 := (unhide HM3).blk1.cell 0; have f6 := (unhide HM3).blk1.frozen 0)
          have HM4 := hide ((unhide HM3).set1 (i := 0) (v := .bool true))
          have hc7 : (w3.setCell ⟨w.heap.size, 0, none⟩ (.bool true)).cell? ⟨w.heap.size, 0, none⟩ = some (.bool true) := (unhide HM4).blk1.cell 0
          refine ⟨.bool true, results_cell_bool rfl Try.underlying4 _ _ ⟨w.heap.size, 0, none⟩ true rfl hc7, rfl, (unhide HM4).below⟩
        · have hple := Frm.pack_len x.1 (by omega)
          have hwr := (unhide HM).size
          have HP := hide (fun u h1 h2 => refPack_any x.1 x.2.1 x.2.2 w.heap.size u h1 h2 (by omega))
          obtain ⟨px, pe, hpk⟩ : ∃ px pe, Frm.pack x.1 = (px, pe) := ⟨_, _, rfl⟩
          rw [hpk] at HP hple
          simp only at hple
          unfold Frm.val at HP
          have HRX := hide hrx
          clear hpk hrx
          gi_wp2_with (first
            | (refine ⟨trivial, ?_⟩; gi_at_call 11; refine (callsIn_wide.2 (unhide HP _ ((unhide HRX).alloc hwr _) (by simp; omega))).mono ?_; rintro e w2 ⟨A2, c2, rfl, hown2, hbel2, hcc2⟩
               have hbw2 := ((Below.refl wr.heap.size wr).alloc (Nat.le_refl _) _).trans (hbel2.mono (by simp))
               have HM2 := hide ((unhide HMx).called hbel2).tail; have HO2 := hide (own_below (unhide HO) hbw2 (fun k hk => ((unhide HO).lt k hk).2)); have HR2 := hide (RdV.of_own hown2); have HZ2 := hide hbw2.size; clear hown2 hbel2 hbw2
               have c5 := (unhide HM2).blk0.cell 0; have f5 := (unhide HM2).blk0.frozen 0)
            | (gi_at_builtin
               refine wpListIn_append_any _ rfl (.tmp 42) (.tmp 43) _ rfl (w1.heap.size + 1) 5 i0 _ 1 1 Try.underlying22 hi hz0 hz1 hz2 rfl (by omega) _ bs.length _ rfl
                 (unhide HO2) _ A2 px.length c2 (px.map Bv) rfl (unhide HR2) (by simp) oneCell_Bv (by simp only [maxLen]; omega) (by omega) (Nat.le_trans hsz (unhide HZ2)) ?_
               intro A3 c3 w3 hown3 hg3 hat3 hbel3 hcc3; have HO3 := hide hown3; have HM3 := hide ((unhide HM2).low hbel3 (by simp; omega) (by omega)); have HZ3 := hide (Nat.le_trans (unhide HZ2) hbel3.size); clear hown3 hg3 hat3 hbel3
               have c5 := (unhide HM3).blk0.cell 0; have f5 := (unhide HM3).blk0.frozen 0))
          refine ⟨⟨k + 1, bs ++ px, A3, c3, by omega, by omega, by go_num, by rw [List.length_append]; exact (unhide HM3).set0, by rw [List.length_append, List.map_append]; exact ownsRow_setCell_below (unhide HO3) (Nat.lt_succ_self _) _, by rw [List.length_append]; exact hcc3, by rw [List.length_append]; omega, by rw [World.size_setCell]; exact Nat.le_trans hsz (unhide HZ3)⟩, by simp [intOf]; omega⟩
    · obtain rfl : k = l.length := by omega
      have HO := hide hown
      have HM := hide hmem
      have c5 := hmem.blk0.cell 0
      have f5 := hmem.blk0.frozen 0
      have HT := hide (ht.below hmem.below).v
      obtain ⟨b, hbs, hbl2⟩ : ∃ b : List UInt8, b.map Bv = bs.map Bv ++ tl.map Bv ∧ Hid (b.length = bs.length + tl.length) := ⟨bs ++ tl, by simp, hide (by simp)⟩
      have hb5 : b.length ≤ 150000000000000 := by have := unhide hbl2; omega
      clear hown hmem
      gi_wp2_with (first
        | (gi_at_builtin
           refine wpListIn_append_big _ rfl (.tmp 46) (.tmp 47) _ rfl (w1.heap.size + 1) 5 i0 _ Try.underlying22 hi hz0 hz1 hz2 rfl _ bs.length _ rfl
             (unhide HO) _ B tl.length cb (tl.map Bv) rfl (unhide HT) (by simp) oneCell_Bv (by omega) hsz ?_
           intro A3 c3 w3 hown3 hg3 hat3 hbel3 hcc3
           rw [← unhide hbl2, ← hbs] at hown3; rw [← unhide hbl2] at hcc3; rw [← unhide hbl2]
           have HO3 := hide hown3; have HM3 := hide ((unhide HM).low hbel3 (by simp; omega) (by omega)); have HZ3 := hide (Nat.le_trans hsz hbel3.size); clear hown3 hg3 hat3 hbel3
           have c5 := (unhide HM3).blk0.cell 0; have f5 := (unhide HM3).blk0.frozen 0
           have c6 : ∀ (v : Value) (o : Obj), ((w3.setCell ⟨w1.heap.size, 0, none⟩ v).alloc o).cell? ⟨w1.heap.size, 0, none⟩ = some v := fun v o => (((unhide HM3).set0).other o).blk0.cell 0)
        | (refine ⟨trivial, ?_⟩; gi_at_call 17; refine (scanC_any Fence.wide 5 trivial rfl _ _ _ _).mono ?_; rintro e w2 ⟨rfl, rfl⟩))
      have HM4 := hide ((unhide HM3).set0 (i := 0) (v := .slice A3 b.length c3))
      have HO4 := hide (ownsRow_setCell_below (unhide HO3) (a := ⟨w1.heap.size, 0, none⟩) (Nat.lt_succ_self _) (.slice A3 b.length c3))
      obtain ⟨WB, hWB⟩ : ∃ WB, w3.setCell ⟨w1.heap.size, 0, none⟩ (.slice A3 b.length c3) = WB := ⟨_, rfl⟩
      have hs3 : w3.heap.size = WB.heap.size := by rw [← hWB]; simp
      rw [hWB] at HM4 HO4 ⊢
      rw [hs3] at HZ3 ⊢
      have HM4 : Hid (Mem w WB [(w1.heap.size, 22, #[.slice A3 b.length c3]), (w.heap.size, 4, #[.bool false])]) := HM4
      clear HM3 HO3 hWB hs3 c5 f5 c6 HM HO HT
      have hc9 := own_cap (unhide HO4)
      have hlt0 := (unhide HM4).blk0.lt
      have hlt1 := (unhide HM4).blk1.lt
      have hbW := hide (RdB.of_own (unhide HO4))
      have hKa : ∀ (W : World) (o : Obj), WB.heap.size + 2 ≤ W.heap.size → KeepU WB.heap.size (WB.heap.size + 1) W (W.alloc o) := fun W o h => ⟨(Below.refl _ W).alloc (by omega) _, Below.heap_alloc _ _ _ (by omega)⟩
      refine rangeFunc_box rfl (by omega) (gf := 24) (lb := #[.pointer (some ⟨WB.heap.size + 1, 0, none⟩)]) rfl trivial (enters_of Try.func24 (by kernel_rfl) rfl)
        (scan_stops 5 (by omega) (WB.heap.size + 1) WB.heap.size b A3 c3 hcc3 (by omega) hc9 _ (by simp) (by simp; omega) ?hc ?hr) KeepU.t (KeepU.b (by simp; omega) (by simp)) (Below.refl _ _) (fun _ => rfl)
        (fun W o h => hKa W o (by simpa using h)) ?hR
        (fun pre W => (∃ p : Nat, Frm.Reach b pre p ∧ W.cell? ⟨WB.heap.size, 0, none⟩ = some (.int .i64 (p : Int)) ∧ W.frozen? ⟨WB.heap.size, 0, none⟩ = false) ∧ Below WB.heap.size WB W)
        (fun c pre W => False)
        ?hI ?hIx ?h0 24 (fun x => #[.int .i64 x.2.1.ver, .int .i64 x.2.1.epoch, .int .i64 x.2.1.seq, .int .i64 x.2.1.ack, .slice x.2.2.1 x.2.1.body.length x.2.2.2]) ?a1 ?assign ?body ?done ?stop
      case assign =>
        intro l1 x W k K hk hK
        have HK := hide hk
        clear hk
        gi_wp2
        rw [unhide HK]
        exact hK
      case hc => exact ((blk_new' WB _ 22 _)).cell 0
      case hr => exact ((unhide hbW).alloc (Nat.le_refl _) _).alloc (by simp) _
      case hR =>
        rintro pre x s A B row ⟨q1, q2, B0, q3, q4⟩ hg hr
        refine ⟨q1, q2, B0, Nat.le_trans q3 hg.size, fun hn => ?_⟩
        obtain ⟨ad, e1, e2, e3⟩ := q4 hn
        exact ⟨ad, e1, e2, fun j u hu => cell_kept (e3 j u hu) hg (fun r e => (hr r e).2)⟩
      case h0 => exact ⟨⟨0, .nil, (Blk.new WB _ _).alloc _ |>.cell 0, (Blk.new WB _ _).alloc _ |>.frozen 0⟩, ((Below.refl _ _).alloc (Nat.le_refl _) _).alloc (by simp) _⟩
      case hI => exact OwnFrom.and (Own.from (fun s A B row hs hg hr => by obtain ⟨p, h1, h2, h3⟩ := hs; exact ⟨p, h1, cell_kept h2 hg hr, (frozen_kept h2 hg hr).trans h3⟩) _) (ownFrom_below (Nat.le_refl _) (by simp; omega))
      case hIx => exact fun c s A B row hs hg hr => hs
      case stop =>
        rintro D cd pre W hD hre hF hK
        exact hF.elim
      case body =>
        rintro l1 pre ⟨p, f, A7, c7⟩ k W hl1 hk7 ⟨⟨q, hre, hc1, hf1⟩, hB⟩ ⟨hre2, ⟨n, hx⟩, B7, hB7, hr7⟩ hbk hpl
        obtain rfl : p = q := hre2.uniq hre
        simp only at hx hr7 hbk
        have hpos := Frm.first_pos hx
        rw [List.length_drop] at hpos
        obtain ⟨ad, rfl, _, _⟩ := ((unhide hbW).below hB) (by omega)
        have c5W : W.cell? ⟨w1.heap.size, 0, none⟩ = some (.slice (some ad) b.length c3) := (hB.cell (p := ⟨w1.heap.size, 0, none⟩) hlt0).trans ((unhide HM4).blk0.cell 0)
        have hrp : RdB W WB.heap.size (some (ad.add p)) (b.drop p) := ((unhide hbW).below hB).off p
        have hle := hre.le.1
        have s1 : (0 : Int) ≤ (p : Int) := by omega
        have s2 : (p : Int) ≤ (b.length : Int) := by omega
        have s3 : (p : Int) ≤ (c3 : Int) := by omega
        have hcp : ¬ c3 = p := by omega
        have hBW : WB.heap.size + 2 ≤ W.heap.size := by
          have h1 := hbk.lt
          simp at hk7
          omega
        have HR := hide (refFirst_n (b.drop p) (some (ad.add p)) (b.length - p) (c3 - p) WB.heap.size W hrp hB.size (by simp) (by omega) (by omega))
        rw [hx] at HR
        have HX := hide hx
        have HC1 : Hid (∀ u, Below W.heap.size W u → u.cell? ⟨WB.heap.size, 0, none⟩ = some (.int .i64 (p : Int)) ∧ u.frozen? ⟨WB.heap.size, 0, none⟩ = false) := hide (fun u h => ⟨(h.cell (p := ⟨WB.heap.size, 0, none⟩) (by show WB.heap.size < _; omega)).trans hc1, (World.frozen?_of_block (h.block _ (by show WB.heap.size < _; omega))).trans hf1⟩)
        have HR7 := hide hr7
        have HBK := hide hbk
        clear hx hr7 hrp hk7
        gi_wp2_with (first
          | (refine ⟨trivial, ?_⟩; gi_at_call 18; refine (CallsIn.inRound l1 (callsIn_wide.2 (unhide HR))).mono ?_; rintro e w5 ⟨A5, c9, rfl, hown5, hbel5, hcc5⟩
             unfold Frm.val
             have HR5 := hide (RdB.of_own hown5)
             have HM5 := hide (((Mem.start w5).new (t := 24) (cs := #[.int .i64 f.ver, .int .i64 f.epoch, .int .i64 f.seq, .int .i64 f.ack, .slice A5 f.body.length c9]) w5.heap.size rfl))
             have hb6 := hbel5.alloc hbel5.size (.cells #[.int .i64 f.ver, .int .i64 f.epoch, .int .i64 f.seq, .int .i64 f.ack, .slice A5 f.body.length c9] 24)
             have fc5 := Frm.cellsAt (unhide HM5).blk0
             have fc7 := Frm.cellsAt ((unhide HBK).below hb6 (unhide HBK).lt)
             have fc1 := unhide HC1 _ hb6
             have HB6 := hide hb6
             clear hown5 hbel5 hcc5 hb6)
          | (refine ⟨trivial, ?_⟩; gi_at_call 16; refine (CallsIn.inRound l1 (callsIn_wide.2 (refSameF_eq f A7 A5 _ _ c7 c9 B7 w5.heap.size _ ((unhide HR7).below ((unhide HB6).mono hB7)) ((unhide HR5).alloc (Nat.le_refl _) _) (Nat.le_trans hB7 (unhide HB6).size) (by simp) rfl rfl))).mono ?_
             rintro e w7 ⟨rfl, hb7⟩
             have hb8 := (unhide HB6).trans (hb7.mono (unhide HB6).size)
             have fc8 := unhide HC1 _ hb8
             have HB8 := hide hb8
             clear hb7 hb8))
        have hb8 := unhide HB8
        have hb9 := hb8.mono (show WB.heap.size ≤ W.heap.size by omega)
        refine ⟨(KeepsFrom.of_grownBy (grown_of_below hb8) (fun j e => by cases e)).trans ((KeepsOthers.setCell _ _ _).from _), ⟨hb9.setCell (p := ⟨WB.heap.size, 0, none⟩) (Nat.le_refl _) _, (Below.heap_setCell _ _ _ _ (by simp)).trans (hb8.block _ (by omega))⟩, ⟨_, hre.more (unhide HX), (World.cell?_setCell_same' _ _ _ (by rw [fc8.1]; rfl)).trans (by simp), by rw [World.frozen?_setCell]; exact fc8.2⟩, (hB.trans (hb8.mono hB.size)).setCell (p := ⟨WB.heap.size, 0, none⟩) (Nat.le_refl _) _⟩
      case done =>
        rintro D ys W hD ⟨p, hre, hst⟩ ⟨⟨q, hre2, hc1, hf1⟩, hB⟩ hK
        obtain rfl := hre.uniq hre2
        have c5W : W.cell? ⟨w1.heap.size, 0, none⟩ = some (.slice A3 b.length c3) := (hB.cell (p := ⟨w1.heap.size, 0, none⟩) hlt0).trans ((unhide HM4).blk0.cell 0)
        have hlp := hre.le.1
        have hD2 : WB.heap.size ≤ D := by
          simp at hD
          omega
        have s1 : (0 : Int) ≤ (p : Int) := by omega
        have s2 : (p : Int) ≤ (b.length : Int) := by omega
        have s3 : (p : Int) ≤ (c3 : Int) := by omega
        obtain ⟨f, n, er, hx⟩ : ∃ f n er, Frm.first (b.drop p) = (f, n, er) := ⟨_, _, _, rfl⟩
        have fe : (er != 0) = true := by
          have h := hst
          unfold Frm.Stops at h
          rw [hx] at h
          simpa using h
        clear hst
        rcases own_forms (unhide HO4) with ⟨e, en⟩ | ⟨g, cap, e⟩
        · simp only [Value.slice.injEq] at e
          obtain ⟨rfl, -, rfl⟩ := e
          obtain rfl : p = 0 := by omega
          have HR := hide (refFirst_n (b.drop 0) none 0 0 WB.heap.size W ((unhide hbW).below hB) hB.size (by simpa using en) (by omega) (by omega))
          rw [en] at c5W
          rw [hx] at HR
          clear hx
          gi_wp2_with (first
            | (refine ⟨trivial, ?_⟩; gi_at_call 18; refine (callsIn_wide.2 (unhide HR)).mono ?_; rintro e w5 ⟨A5, c9, rfl, hown5, hbel5, hcc5⟩
               unfold Frm.val
               have HB6 : Hid (∀ o, Below W.heap.size W (w5.alloc o)) := hide (fun o => hbel5.alloc hbel5.size o)
               clear hown5 hbel5 hcc5)
            | (refine ⟨trivial, ?_⟩; gi_at_call 12; refine (callsIn_wide.2 (unhide HA _)).mono ?_; rintro e w8 ⟨rfl, hb8⟩
               have hB8 := Below.trans (unhide HB6 _) (hb8.mono (unhide HB6 _).size)
               have HB3 := hide (hB.trans (hB8.mono hB.size)); have HK3 := hide ((hB8.block D (Array.getElem?_eq_some_iff.1 hK).1).trans hK); have b4 := (unhide HM4).blk1.below (unhide HB3) hlt1; have c4W : w8.cell? ⟨w.heap.size, 0, none⟩ = some (.bool false) := b4.cell 0; have f4W := b4.frozen 0; clear b4 hb8 hB8))
          have hK' := (KeepsOthers.setCell w8 ⟨w.heap.size, 0, none⟩ (.bool true)).same D _ (unhide HK3) rfl
          refine ⟨by simp, .inl ⟨_, _, rfl, run_takeDeferred hK', ?_⟩⟩
          have hc5 := cell_kept (World.cell?_setCell_same' w8 ⟨w.heap.size, 0, none⟩ (.bool true) (by rw [c4W]; rfl)) (grownBy_putObj' _ D (.deferred none)) (fun r e => by cases e; exact ⟨_, hK', rfl⟩)
          have hB4 := ((unhide HM4).below.trans ((unhide HB3).mono (unhide HM4).size)).setCell (p := ⟨w.heap.size, 0, none⟩) (by simp) (.bool true)
          have hB5 := hB4.trans (belowK_b (w := WB) (unhide HM4).size _ D _ (.deferred none) hD2 hK' rfl rfl)
          exact ⟨.bool true, results_cell_bool rfl Try.underlying4 _ _ ⟨w.heap.size, 0, none⟩ true rfl hc5, rfl, hB5⟩
        · simp only [Value.slice.injEq] at e
          obtain ⟨ad, rfl⟩ : ∃ ad, A3 = some ad := ⟨_, e.1⟩
          clear e
          by_cases hcp : c3 = p
          · subst hcp
            have hz : (b.drop c3).length = 0 := by simp; omega
            have HR := hide (refFirst_n (b.drop c3) (some ad) 0 0 WB.heap.size W (fun h => absurd h (by omega)) hB.size hz (by omega) (by omega))
            rw [hx] at HR
            clear hx hz
            gi_wp2_with (first
              | (refine ⟨trivial, ?_⟩; gi_at_call 18; refine (callsIn_wide.2 (unhide HR)).mono ?_; rintro e w5 ⟨A5, c9, rfl, hown5, hbel5, hcc5⟩
                 unfold Frm.val
                 have HB6 : Hid (∀ o, Below W.heap.size W (w5.alloc o)) := hide (fun o => hbel5.alloc hbel5.size o)
                 clear hown5 hbel5 hcc5)
              | (refine ⟨trivial, ?_⟩; gi_at_call 12; refine (callsIn_wide.2 (unhide HA _)).mono ?_; rintro e w8 ⟨rfl, hb8⟩
                 have hB8 := Below.trans (unhide HB6 _) (hb8.mono (unhide HB6 _).size)
                 have HB3 := hide (hB.trans (hB8.mono hB.size)); have HK3 := hide ((hB8.block D (Array.getElem?_eq_some_iff.1 hK).1).trans hK); have b4 := (unhide HM4).blk1.below (unhide HB3) hlt1; have c4W : w8.cell? ⟨w.heap.size, 0, none⟩ = some (.bool false) := b4.cell 0; have f4W := b4.frozen 0; clear b4 hb8 hB8))
            have hK' := (KeepsOthers.setCell w8 ⟨w.heap.size, 0, none⟩ (.bool true)).same D _ (unhide HK3) rfl
            refine ⟨by simp, .inl ⟨_, _, rfl, run_takeDeferred hK', ?_⟩⟩
            have hc5 := cell_kept (World.cell?_setCell_same' w8 ⟨w.heap.size, 0, none⟩ (.bool true) (by rw [c4W]; rfl)) (grownBy_putObj' _ D (.deferred none)) (fun r e => by cases e; exact ⟨_, hK', rfl⟩)
            have hB4 := ((unhide HM4).below.trans ((unhide HB3).mono (unhide HM4).size)).setCell (p := ⟨w.heap.size, 0, none⟩) (by simp) (.bool true)
            have hB5 := hB4.trans (belowK_b (w := WB) (unhide HM4).size _ D _ (.deferred none) hD2 hK' rfl rfl)
            exact ⟨.bool true, results_cell_bool rfl Try.underlying4 _ _ ⟨w.heap.size, 0, none⟩ true rfl hc5, rfl, hB5⟩
          · have hrp : RdB W WB.heap.size (some (ad.add p)) (b.drop p) := ((unhide hbW).below hB).off p
            have HR := hide (refFirst_n (b.drop p) (some (ad.add p)) (b.length - p) (c3 - p) WB.heap.size W hrp hB.size (by simp) (by omega) (by omega))
            rw [hx] at HR
            clear hx
            gi_wp2_with (first
              | (refine ⟨trivial, ?_⟩; gi_at_call 18; refine (callsIn_wide.2 (unhide HR)).mono ?_; rintro e w5 ⟨A5, c9, rfl, hown5, hbel5, hcc5⟩
                 unfold Frm.val
                 have HB6 : Hid (∀ o, Below W.heap.size W (w5.alloc o)) := hide (fun o => hbel5.alloc hbel5.size o)
                 clear hown5 hbel5 hcc5)
              | (refine ⟨trivial, ?_⟩; gi_at_call 12; refine (callsIn_wide.2 (unhide HA _)).mono ?_; rintro e w8 ⟨rfl, hb8⟩
                 have hB8 := Below.trans (unhide HB6 _) (hb8.mono (unhide HB6 _).size)
                 have HB3 := hide (hB.trans (hB8.mono hB.size)); have HK3 := hide ((hB8.block D (Array.getElem?_eq_some_iff.1 hK).1).trans hK); have b4 := (unhide HM4).blk1.below (unhide HB3) hlt1; have c4W : w8.cell? ⟨w.heap.size, 0, none⟩ = some (.bool false) := b4.cell 0; have f4W := b4.frozen 0; clear b4 hb8 hB8))
            have hK' := (KeepsOthers.setCell w8 ⟨w.heap.size, 0, none⟩ (.bool true)).same D _ (unhide HK3) rfl
            refine ⟨by simp, .inl ⟨_, _, rfl, run_takeDeferred hK', ?_⟩⟩
            have hc5 := cell_kept (World.cell?_setCell_same' w8 ⟨w.heap.size, 0, none⟩ (.bool true) (by rw [c4W]; rfl)) (grownBy_putObj' _ D (.deferred none)) (fun r e => by cases e; exact ⟨_, hK', rfl⟩)
            have hB4 := ((unhide HM4).below.trans ((unhide HB3).mono (unhide HM4).size)).setCell (p := ⟨w.heap.size, 0, none⟩) (by simp) (.bool true)
            have hB5 := hB4.trans (belowK_b (w := WB) (unhide HM4).size _ D _ (.deferred none) hD2 hK' rfl rfl)
            exact ⟨.bool true, results_cell_bool rfl Try.underlying4 _ _ ⟨w.heap.size, 0, none⟩ true rfl hc5, rfl, hB5⟩
end Go.Proofs.Ytjlmcjegfbnhpaa
