/- The walk of NetPlays. -/
import Derived.Test.YtbclfiollfagmaaNetLawH
import Derived.Test.YtbclfiollfagmaaMemIn
import Derived.Test.YtbclfiollfagmaaFrame
import Derived.Deep.RegionHeld3
namespace Go.Proofs.Ytbclfiollfagmaa
open Go.RowKit Go.Shelf
set_option linter.unusedVariables false
set_option linter.unusedSimpArgs false
attribute [local go_sem] Oper.semAt_some

/-- what is asked of a region that does not panic: what stands behind it -/
def Calm (R : Act → World → Prop) : Exit → Act → World → Prop
  | .normal, a, w => R a w
  | _, _, _ => False
theorem wp_region_calm {P : Program} {c : Code} {Q : Exit → Act → World → Prop} {a : Act} {w : World} (h : ∀ R : Act → World → Prop, (∀ a w, Q .normal a w → R a w) → c.wp P (Calm R) a w) : c.wp P Q a w :=
  Code.wp_mono (fun e a w h => by cases e <;> first | exact h | exact (h : False).elim) (h (fun a w => Q .normal a w) fun _ _ h => h)
theorem wpAnyH_switch {P : Program} {md : Region.Mode} {ops : Array Oper} {Q : Exit → Act → World → Prop} {S S2 : World → Prop} (h : ∀ w, S2 w → S w) : ∀ (fuel : Nat) (listed : Array Bool) (a : Act) (w : World), wpAnyH P md ops Q S2 fuel listed a w → wpAnyH P md ops Q S fuel listed a w
  | 0, _, _, _, hw => hw
  | fuel + 1, _, _, _, hw => ⟨hw.1, fun i hi => wpOp_mono (fun a' w' h' => ⟨h _ h'.1, wpAnyH_switch h fuel _ a' w' h'.2⟩) (hw.2 i hi)⟩
def OpS (g : Nat) (x : NOp) (u : World) : Prop := u.cell? ⟨g, 0, none⟩ = some (.int .i64 x.kd) ∧ u.cell? ⟨g, 1, none⟩ = some (.int .i64 x.f) ∧ u.cell? ⟨g, 2, none⟩ = some (.int .i64 x.t) ∧ u.cell? ⟨g, 3, none⟩ = some (.int .i64 x.i) ∧ u.cell? ⟨g, 4, none⟩ = some (.int .i64 x.at_) ∧ u.cell? ⟨g, 5, none⟩ = some (.int .u8 (x.m.toNat : Int)) ∧ u.cell? ⟨g, 6, none⟩ = some (.slice x.A x.l.length x.c)
def OpL (g q : Nat) (x : NOp) (n : Int) (u : World) : Prop := OpS g x u ∧ u.cell? ⟨q, 1, none⟩ = some (.int .i64 n)
theorem cell_lt {w : World} {g i : Nat} {v : Value} (h : w.cell? ⟨g, i, none⟩ = some v) : g < w.heap.size := by
  rcases Nat.lt_or_ge g w.heap.size with hlt | hge
  · exact hlt
  · unfold World.cell? at h
    simp [Array.getElem?_eq_none hge] at h
set_option maxRecDepth 100000 in
set_option maxHeartbeats 8000000 in
theorem netPlays_any (r : List NOp) (A : Option Addr) (c : Nat) (w : World) (hr : InNOps w w.heap.size A r) (hc : r.length ≤ c) :
    Calls Try.prog 6 #[.slice A r.length c] w fun e w' => e = .returned (.bool true) ∧ Below w.heap.size w w' := by
  have HA := hide awake_any
  have HN := hide (fun u => new_net u)
  have HR := hide hr
  clear hr
  have hal : Below w.heap.size w (w.alloc (.cells #[.bool false] 4)) := (Below.refl _ _).alloc (Nat.le_refl _) _
  have hbk := Blk.new w 4 #[.bool false]
  obtain ⟨w0, hw0⟩ : ∃ u, w.alloc (.cells #[.bool false] 4) = u := ⟨_, rfl⟩
  rw [hw0] at hal hbk
  have HAL := hide hal; have HBK := hide hbk
  clear hal hbk
  refine (callsIn_wide (n := 6)).1 ?_
  refine callsIn_of_wp_marks Try.func6 rfl trivial ?_ rfl
  simp only [Try.ntmps6, List.size_toArray, List.length_cons, List.length_nil, Nat.reduceAdd, Nat.reduceSub, Array.replicate_succ, Array.replicate_zero, List.push_toArray, List.append_toArray, List.nil_append, List.cons_append]
  refine wpIn_wide.2 ?_
  go_upto_region 4 with (go_at_call 8; refine (unhide HN w0).mono ?_; rintro _ w1 ⟨rfl, hn1, hb1⟩; have HN1 := hide hn1; have HB1 := hide hb1; clear hn1 hb1)
  clear hw0
  have hs0 : w.heap.size < w0.heap.size := (unhide HBK).lt
  have hs01 : w0.heap.size < w1.heap.size := (unhide HN1).blk.lt
  obtain ⟨w2, hw2⟩ : ∃ u, w1.alloc (.cells #[.slice none 0 0, .int .i64 0] 44) = u := ⟨_, rfl⟩
  have hb12 : Below w1.heap.size w1 w2 := hw2 ▸ (Below.refl _ _).alloc (Nat.le_refl _) _
  have hd1 : DocAt w2 w.heap.size w1.heap.size newDS := hw2 ▸ newDS_at w1 w.heap.size (by omega)
  have hn2 : NetAt w2 w.heap.size w0.heap.size newNS := ((unhide HN1).new hb12).rebase (by omega)
  have HO1 : Hid (Both w2 w.heap.size w0.heap.size w1.heap.size newNS newDS 0) := hide (new_both hn2 hd1 (by omega))
  have hbw0 := (unhide HAL).trans ((unhide HB1).mono (unhide HAL).size)
  have HBW : Hid (Below w.heap.size w w2) := hide (hbw0.trans (hb12.mono (by omega)))
  have hbr : Blk w2 w.heap.size 4 #[.bool false] := ((unhide HBK).below (unhide HB1) hs0).below hb12 (by omega)
  have HBR := hide hbr
  have hs12 : w1.heap.size < w2.heap.size := hd1.blk.lt
  have HFW := hide (few_any r A c 120 w.heap.size w2 ((unhide HR).below (unhide HBW)) (by omega) hc (by omega))
  clear hd1 hn2 hb12 hbr hbw0 HN1 HB1 HN HBK
  try simp only [hw2]
  clear hw2
  go_wp2_with (go_at_call 20; refine (unhide HFW).mono ?_; rintro _ w5 ⟨A5, c5, rfl, hown5, hb5⟩
               have HQ5 : Hid (Duo w w5 w0.heap.size w1.heap.size newNS newDS 0 (.slice A5 (min 120 r.length) c5) (min 120 r.length) (opCells (fewOf r (min 120 r.length)))) := hide ⟨(unhide HO1).new hb5, own_more hown5 (fun g hg => by have := (hown5.lt g hg).1; omega), fun g hg h1 => by
                   have h5 := (hown5.lt g hg).1
                   have e1 : g = w0.heap.size ∨ g = w1.heap.size := h1.imp newNS_foot newDS_foot
                   omega, (unhide HBR).below hb5 (by omega), fun h1 => by
                   have e1 : w.heap.size = w0.heap.size ∨ w.heap.size = w1.heap.size := h1.imp newNS_foot newDS_foot
                   omega, (unhide HBW).trans (hb5.mono (by omega))⟩
               clear hown5 hb5)
  have hfl : (fewOf r (min 120 r.length)).length = min 120 r.length := fewOf_len r (by omega)
  generalize hN : min 120 r.length = N at HQ5 hfl ⊢
  have hN120 : N ≤ 120 := by omega
  generalize hL : fewOf r N = L at HQ5 hfl
  have HOK : Hid (∀ (k : Nat) (x : NOp), L[k]? = some x → x.Ok w w.heap.size ∧ x.l.length ≤ 4096) := hide (fun k x hx => fewOf_ok (unhide HR) (hL ▸ hx))
  clear HO1 HBW HFW hN hL HR HBR HAL
  generalize w0.heap.size = p at HQ5 hs0 hs01 ⊢
  generalize w1.heap.size = q at HQ5 hs01 hs12 ⊢
  go_loopw [19] (fun i wr => ∃ (k : Nat) (s : NS) (d : DS), k ≤ N ∧ i = .int .i64 k ∧ Duo w wr p q s d k (.slice A5 N c5) N (opCells L)) (fun i _ => N - (intOf i).toNat)
  case atStart => exact ⟨0, newNS, newDS, Nat.zero_le _, rfl, unhide HQ5⟩
  case round =>
    obtain ⟨k, s, d, hk, rfl, hq⟩ := hrel
    have HQ := hide hq
    clear HQ5
    by_cases hlt : k < N
    · obtain ⟨x, hx⟩ : ∃ x, L[k]? = some x := ⟨_, List.getElem?_eq_getElem (by omega)⟩
      obtain ⟨g5, cap5, hv5, _, _⟩ := hq.row.form (by omega)
      obtain rfl : A5 = some ⟨g5, 0, none⟩ := by injection hv5
      have hcx := hq.cells hfl hx
      obtain ⟨hok, hxl⟩ := unhide HOK k x hx
      have HXOK := hide hok
      have HM1 := hide ((Mem.start wr).new (t := 47) (cs := #[.int .i64 0, .int .i64 0, .int .i64 0, .int .i64 0, .int .i64 0, .int .u8 0, .slice none 0 0]) wr.heap.size rfl)
      clear hq hv5 hx hok
      go_upto_region 7 with (refine wpList_store_blk rfl 47 (.tmp 6) (.tmp 22) rfl (wr.heap.size) _ (by rfl) (by rfl) 47 _ (unhide HM1).blk0 (by kernel_rfl) (by rfl) (by simp [Value.oneCell']) ?_; intro w6 hbS hgS; have HM2 := hide ((unhide HM1).grown0 hbS hgS); have HGw6 := hide hgS; clear hbS hgS)
      have HQ6 := hide (((unhide HQ).new (unhide HM2).below).new (Below.refl _ _).drew)
      have HDO : Hid (Calls Try.prog 21 #[.pointer (some ⟨p, 0, none⟩), .pointer (some ⟨q, 0, none⟩), .agg #[.int .i64 x.kd, .int .i64 x.f, .int .i64 x.t, .int .i64 x.i, .int .i64 x.at_, .int .u8 (x.m.toNat : Int), .slice x.A x.l.length x.c]] w6.drew (DoneP w6.drew w.heap.size p q k s d x)) := hide (do_any w.heap.size p q w.heap.size k s d x w6.drew (unhide HQ6).one ((unhide HXOK).below (unhide HQ6).below) (Nat.le_refl _) hxl (by omega))
      have HFB : Hid (∀ g, FF p q s d g → g < wr.heap.size) := hide (fun g hg => ((unhide HQ).one.foot hg).2)
      have fo6 := opAt (unhide HM2).blk0
      have fo6d := opAt (unhide HM2).blk0.drew
      clear hcx
      refine wp_region_calm fun R hR => ?_
      refine wp_region_held_drew (S := OpS wr.heap.size x) (by kernel_rfl) (by exact fo6d) (fun hHeld => ?_)
      refine wpAnyH_take (i := 0) (v := ?_) rfl (by kernel_rfl) (by kernel_rfl) (by kernel_rfl) (fun _ _ _ h => h) (Or.inl ⟨by kernel_rfl, ?_⟩) (by assumption) ?_
      rotate_left
      · intro u hSu
        obtain hSu := hSu
        simp only [OpS, OpL] at hSu
        go_simp
        try with_reducible rfl
      try simp only [Act.put, List.setIfInBounds_toArray, List.set_cons_zero, List.set_cons_succ]
      refine wpAnyH_take (i := 1) (v := ?_) rfl (by kernel_rfl) (by kernel_rfl) (by kernel_rfl) (fun _ _ _ h => h) (Or.inl ⟨by kernel_rfl, ?_⟩) (by assumption) ?_
      rotate_left
      · intro u hSu
        obtain hSu := hSu
        simp only [OpS, OpL] at hSu
        go_simp
        try with_reducible rfl
      try simp only [Act.put, List.setIfInBounds_toArray, List.set_cons_zero, List.set_cons_succ]
      refine wpAnyH_take (i := 2) (v := ?_) rfl (by kernel_rfl) (by kernel_rfl) (by kernel_rfl) (fun _ _ _ h => h) (Or.inl ⟨by kernel_rfl, ?_⟩) (by assumption) ?_
      rotate_left
      · intro u hSu
        obtain hSu := hSu
        simp only [OpS, OpL] at hSu
        go_simp
        try with_reducible rfl
      try simp only [Act.put, List.setIfInBounds_toArray, List.set_cons_zero, List.set_cons_succ]
      refine wpAnyH_ready (rs := [3]) (by kernel_rfl) (by simp) ?_
      refine AllReadyH.cons rfl (fun K hK => ?_) AllReadyH.nil
      go_simp
      go_at_call 21
      refine (unhide HDO).mono ?_
      rintro _ w7 ⟨rfl, s', d', hb7, hs7, hm7⟩
      have HQ7 := hide ((unhide HQ6).step hb7 hs7)
      have hk7 := (unhide HM2).blk0.drew.only hs7.only (fun hf => Nat.lt_irrefl _ (unhide HFB _ hf))
      have fo7 := opAt hk7
      have fl7 : w7.cell? ⟨q, 1, none⟩ = some (.int .i64 d'.lost) := (unhide HQ7).one.doc.hdr1
      have hsl : s'.lost = d'.lost := (unhide HQ7).one.rel.lost
      obtain ⟨m, hm1, hm2⟩ := (unhide HQ7).one.rel.lens x.f x.t
      have HL1 := hide (hm1 w7 _ _ (unhide HQ7).one.net)
      have HL2 := hide (hm2 w7 _ _ (unhide HQ7).one.doc (by have := (unhide HQ7).one.rows; omega))
      have HLO := hide (lost_any _ _ _ _ (unhide HQ7).one.net)
      rw [hsl] at HLO
      clear hb7 hs7 hm7 hk7 hm1 hm2 hsl fo6 fo6d hHeld
      refine hK.out _ _ (by exact fo7) (fun _ => ?_)
      clear hK K
      refine wpAnyH_switch (S2 := OpL wr.heap.size q x d'.lost) (fun w h => h.1) _ _ _ _ ?_
      have hHeld : OpL wr.heap.size q x d'.lost w7 := ⟨fo7, fl7⟩
      clear fo7 fl7
      try simp only [Act.put, List.setIfInBounds_toArray, List.set_cons_zero, List.set_cons_succ]
      refine wpAnyH_take (i := 4) (v := ?_) rfl (by kernel_rfl) (by kernel_rfl) (by kernel_rfl) (fun _ _ _ h => h) (Or.inl ⟨by kernel_rfl, ?_⟩) (by assumption) ?_
      rotate_left
      · intro u hSu
        obtain hSu := hSu
        simp only [OpS, OpL] at hSu
        go_simp
        try with_reducible rfl
      try simp only [Act.put, List.setIfInBounds_toArray, List.set_cons_zero, List.set_cons_succ]
      refine wpAnyH_take (i := 5) (v := ?_) rfl (by kernel_rfl) (by kernel_rfl) (by kernel_rfl) (fun _ _ _ h => h) (Or.inl ⟨by kernel_rfl, ?_⟩) (by assumption) ?_
      rotate_left
      · intro u hSu
        obtain hSu := hSu
        simp only [OpS, OpL] at hSu
        go_simp
        try with_reducible rfl
      try simp only [Act.put, List.setIfInBounds_toArray, List.set_cons_zero, List.set_cons_succ]
      refine wpAnyH_take (i := 6) (v := ?_) rfl (by kernel_rfl) (by kernel_rfl) (by kernel_rfl) (fun _ _ _ h => h) (Or.inl ⟨by kernel_rfl, ?_⟩) (by assumption) ?_
      rotate_left
      · intro u hSu
        obtain hSu := hSu
        simp only [OpS, OpL] at hSu
        go_simp
        try with_reducible rfl
      try simp only [Act.put, List.setIfInBounds_toArray, List.set_cons_zero, List.set_cons_succ]
      refine wpAnyH_take (i := 8) (v := ?_) rfl (by kernel_rfl) (by kernel_rfl) (by kernel_rfl) (fun _ _ _ h => h) (Or.inl ⟨by kernel_rfl, ?_⟩) (by assumption) ?_
      rotate_left
      · intro u hSu
        obtain hSu := hSu
        simp only [OpS, OpL] at hSu
        go_simp
        try with_reducible rfl
      try simp only [Act.put, List.setIfInBounds_toArray, List.set_cons_zero, List.set_cons_succ]
      refine wpAnyH_take (i := 9) (v := ?_) rfl (by kernel_rfl) (by kernel_rfl) (by kernel_rfl) (fun _ _ _ h => h) (Or.inl ⟨by kernel_rfl, ?_⟩) (by assumption) ?_
      rotate_left
      · intro u hSu
        obtain hSu := hSu
        simp only [OpS, OpL] at hSu
        go_simp
        try with_reducible rfl
      try simp only [Act.put, List.setIfInBounds_toArray, List.set_cons_zero, List.set_cons_succ]
      refine wpAnyH_take (i := 10) (v := ?_) rfl (by kernel_rfl) (by kernel_rfl) (by kernel_rfl) (fun _ _ _ h => h) (Or.inl ⟨by kernel_rfl, ?_⟩) (by assumption) ?_
      rotate_left
      · intro u hSu
        obtain hSu := hSu
        simp only [OpS, OpL] at hSu
        go_simp
        try with_reducible rfl
      try simp only [Act.put, List.setIfInBounds_toArray, List.set_cons_zero, List.set_cons_succ]
      refine wpAnyH_take (i := 11) (v := ?_) rfl (by kernel_rfl) (by kernel_rfl) (by kernel_rfl) (fun _ _ _ h => h) (Or.inl ⟨by kernel_rfl, ?_⟩) (by assumption) ?_
      rotate_left
      · intro u hSu
        obtain hSu := hSu
        simp only [OpS, OpL] at hSu
        go_simp
        try with_reducible rfl
      try simp only [Act.put, List.setIfInBounds_toArray, List.set_cons_zero, List.set_cons_succ]
      refine wpAnyH_ready (rs := [7]) (by kernel_rfl) (by simp) ?_
      refine AllReadyH.cons rfl (fun K hK => ?_) AllReadyH.nil
      go_simp
      go_at_call 13
      refine (unhide HLO).mono ?_
      rintro _ w8 ⟨rfl, rfl⟩
      refine hK.out _ _ (by assumption) (fun _ => ?_)
      clear hK K
      try simp only [Act.put, List.setIfInBounds_toArray, List.set_cons_zero, List.set_cons_succ]
      refine wpAnyH_take (i := 12) (v := ?_) rfl (by kernel_rfl) (by kernel_rfl) (by kernel_rfl) (fun _ _ _ h => h) (Or.inl ⟨by kernel_rfl, ?_⟩) (by assumption) ?_
      rotate_left
      · intro u hSu
        obtain hSu := hSu
        simp only [OpS, OpL] at hSu
        go_simp
        try with_reducible rfl
      try simp only [Act.put, List.setIfInBounds_toArray, List.set_cons_zero, List.set_cons_succ]
      refine wpAnyH_take (i := 13) (v := ?_) rfl (by kernel_rfl) (by kernel_rfl) (by kernel_rfl) (fun _ _ _ h => h) (Or.inl ⟨by kernel_rfl, ?_⟩) (by assumption) ?_
      rotate_left
      · intro u hSu
        obtain hSu := hSu
        simp only [OpS, OpL] at hSu
        go_simp
        try with_reducible rfl
      try simp only [Act.put, List.setIfInBounds_toArray, List.set_cons_zero, List.set_cons_succ]
      refine wpAnyH_take (i := 14) (v := ?_) rfl (by kernel_rfl) (by kernel_rfl) (by kernel_rfl) (fun _ _ _ h => h) (Or.inl ⟨by kernel_rfl, ?_⟩) (by assumption) ?_
      rotate_left
      · intro u hSu
        obtain hSu := hSu
        simp only [OpS, OpL] at hSu
        go_simp
        try with_reducible rfl
      try simp only [Act.put, List.setIfInBounds_toArray, List.set_cons_zero, List.set_cons_succ]
      refine wpAnyH_take (i := 15) (v := ?_) rfl (by kernel_rfl) (by kernel_rfl) (by kernel_rfl) (fun _ _ _ h => h) (Or.inl ⟨by kernel_rfl, ?_⟩) (by assumption) ?_
      rotate_left
      · intro u hSu
        obtain hSu := hSu
        simp only [OpS, OpL] at hSu
        go_simp
        try with_reducible rfl
      try simp only [Act.put, List.setIfInBounds_toArray, List.set_cons_zero, List.set_cons_succ]
      refine wpAnyH_take (i := 16) (v := ?_) rfl (by kernel_rfl) (by kernel_rfl) (by kernel_rfl) (fun _ _ _ h => h) (Or.inl ⟨by kernel_rfl, ?_⟩) (by assumption) ?_
      rotate_left
      · intro u hSu
        obtain hSu := hSu
        simp only [OpS, OpL] at hSu
        go_simp
        try with_reducible rfl
      try simp only [Act.put, List.setIfInBounds_toArray, List.set_cons_zero, List.set_cons_succ]
      refine wpAnyH_take (i := 17) (v := ?_) rfl (by kernel_rfl) (by kernel_rfl) (by kernel_rfl) (fun _ _ _ h => h) (Or.inl ⟨by kernel_rfl, ?_⟩) (by assumption) ?_
      rotate_left
      · intro u hSu
        obtain hSu := hSu
        simp only [OpS, OpL] at hSu
        go_simp
        try with_reducible rfl
      try simp only [Act.put, List.setIfInBounds_toArray, List.set_cons_zero, List.set_cons_succ]
      refine wpAnyH_take (i := 18) (v := ?_) rfl (by kernel_rfl) (by kernel_rfl) (by kernel_rfl) (fun _ _ _ h => h) (Or.inl ⟨by kernel_rfl, ?_⟩) (by assumption) ?_
      rotate_left
      · intro u hSu
        obtain hSu := hSu
        simp only [OpS, OpL] at hSu
        go_simp
        try with_reducible rfl
      try simp only [Act.put, List.setIfInBounds_toArray, List.set_cons_zero, List.set_cons_succ]
      refine wpAnyH_take (i := 19) (v := ?_) rfl (by kernel_rfl) (by kernel_rfl) (by kernel_rfl) (fun _ _ _ h => h) (Or.inl ⟨by kernel_rfl, ?_⟩) (by assumption) ?_
      rotate_left
      · intro u hSu
        obtain hSu := hSu
        simp only [OpS, OpL] at hSu
        go_simp
        try with_reducible rfl
      try simp only [Act.put, List.setIfInBounds_toArray, List.set_cons_zero, List.set_cons_succ]
      refine wpAnyH_take (i := 21) (v := ?_) rfl (by kernel_rfl) (by kernel_rfl) (by kernel_rfl) (fun _ _ _ h => h) (Or.inl ⟨by kernel_rfl, ?_⟩) (by assumption) ?_
      rotate_left
      · intro u hSu
        obtain hSu := hSu
        simp only [OpS, OpL] at hSu
        go_simp
        try with_reducible rfl
      try simp only [Act.put, List.setIfInBounds_toArray, List.set_cons_zero, List.set_cons_succ]
      refine wpAnyH_take (i := 22) (v := ?_) rfl (by kernel_rfl) (by kernel_rfl) (by kernel_rfl) (fun _ _ _ h => h) (Or.inl ⟨by kernel_rfl, ?_⟩) (by assumption) ?_
      rotate_left
      · intro u hSu
        obtain hSu := hSu
        simp only [OpS, OpL] at hSu
        go_simp
        try with_reducible rfl
      try simp only [Act.put, List.setIfInBounds_toArray, List.set_cons_zero, List.set_cons_succ]
      refine wpAnyH_take (i := 23) (v := ?_) rfl (by kernel_rfl) (by kernel_rfl) (by kernel_rfl) (fun _ _ _ h => h) (Or.inl ⟨by kernel_rfl, ?_⟩) (by assumption) ?_
      rotate_left
      · intro u hSu
        obtain hSu := hSu
        simp only [OpS, OpL] at hSu
        go_simp
        try with_reducible rfl
      try simp only [Act.put, List.setIfInBounds_toArray, List.set_cons_zero, List.set_cons_succ]
      refine wpAnyH_take (i := 24) (v := ?_) rfl (by kernel_rfl) (by kernel_rfl) (by kernel_rfl) (fun _ _ _ h => h) (Or.inl ⟨by kernel_rfl, ?_⟩) (by assumption) ?_
      rotate_left
      · intro u hSu
        obtain hSu := hSu
        simp only [OpS, OpL] at hSu
        go_simp
        try with_reducible rfl
      try simp only [Act.put, List.setIfInBounds_toArray, List.set_cons_zero, List.set_cons_succ]
      refine wpAnyH_take (i := 25) (v := ?_) rfl (by kernel_rfl) (by kernel_rfl) (by kernel_rfl) (fun _ _ _ h => h) (Or.inl ⟨by kernel_rfl, ?_⟩) (by assumption) ?_
      rotate_left
      · intro u hSu
        obtain hSu := hSu
        simp only [OpS, OpL] at hSu
        go_simp
        try with_reducible rfl
      try simp only [Act.put, List.setIfInBounds_toArray, List.set_cons_zero, List.set_cons_succ]
      refine wpAnyH_ready (rs := [20]) (by kernel_rfl) (by simp) ?_
      refine AllReadyH.cons rfl (fun K hK => ?_) AllReadyH.nil
      go_simp
      go_at_call 12
      refine (unhide HL1).mono ?_
      rintro _ w8 ⟨rfl, rfl⟩
      refine hK.out _ _ (by assumption) (fun _ => ?_)
      clear hK K
      try simp only [Act.put, List.setIfInBounds_toArray, List.set_cons_zero, List.set_cons_succ]
      refine wpAnyH_ready (rs := [26]) (by kernel_rfl) (by simp) ?_
      refine AllReadyH.cons rfl (fun K hK => ?_) AllReadyH.nil
      go_simp
      go_at_call 22
      refine (unhide HL2).mono ?_
      rintro _ w8 ⟨rfl, rfl⟩
      refine hK.out _ _ (by assumption) (fun _ => ?_)
      clear hK K
      try simp only [Act.put, List.setIfInBounds_toArray, List.set_cons_zero, List.set_cons_succ]
      refine wpAnyH_take (i := 27) (v := ?_) rfl (by kernel_rfl) (by kernel_rfl) (by kernel_rfl) (fun _ _ _ h => h) (Or.inl ⟨by kernel_rfl, ?_⟩) (by assumption) ?_
      rotate_left
      · intro u hSu
        obtain hSu := hSu
        simp only [OpS, OpL] at hSu
        go_simp
        try with_reducible rfl
      try simp only [Act.put, List.setIfInBounds_toArray, List.set_cons_zero, List.set_cons_succ]
      refine wpAnyH_take (i := 28) (v := ?_) rfl (by kernel_rfl) (by kernel_rfl) (by kernel_rfl) (fun _ _ _ h => h) (Or.inl ⟨by kernel_rfl, ?_⟩) (by assumption) ?_
      rotate_left
      · intro u hSu
        obtain hSu := hSu
        simp only [OpS, OpL] at hSu
        go_simp
        try with_reducible rfl
      try simp only [Act.put, List.setIfInBounds_toArray, List.set_cons_zero, List.set_cons_succ]
      refine wpAnyH_done (by kernel_rfl) ?_ _
      all_goals refine hR _ _ ?_
      all_goals clear hR R
      all_goals go_wp2_with fail
      all_goals
        go_roundw
        case rel => exact ⟨k + 1, s', d', by omega, by go_num, unhide HQ7⟩
        case measure => simp [intOf]; omega
    · obtain rfl : k = N := by omega
      obtain ⟨wo, hwo⟩ : ∃ u : World, u = wr := ⟨_, rfl⟩
      subst hwo
      have HDW := hide (dways_any w.heap.size q d s wo hq.one.doc (by have := hq.one.rows; omega) hq.one.rel.wlen)
      have hwl := wto_len s 441
      have HTK : Hid (∀ k0, k0 < 441 → wto s (k0 + 1) = (wto s 441).take (wto s (k0 + 1)).length ∧ (wto s (k0 + 1)).length ≤ (wto s 441).length) := hide (fun k0 h => wto_take s (by omega))
      have hpw : p < wo.heap.size := hq.one.net.blk.lt
      clear hq HOK
      go_upto_region 12 with (go_at_call 23; refine (unhide HDW).mono ?_; rintro _ w6 ⟨A6, c6, rfl, ho6, hb6⟩; have HO6 := hide ho6; have HB6 := hide hb6; have hs6 := hb6.size; clear ho6 hb6)
      obtain ⟨L, hL⟩ : ∃ L, wto s 441 = L := ⟨_, rfl⟩
      have HLL := hide hL
      rw [hL] at HO6 HTK hwl
      simp only [hL]
      clear hL
      have hm0 := ((Mem.start w6).new (t := 51) (cs := #[.slice A6 L.length c6]) w6.heap.size rfl).new (t := 3) (cs := #[.int .i64 0]) (w6.heap.size + 1) (by simp)
      obtain ⟨w7, hw7⟩ : ∃ u, (w6.alloc (.cells #[.slice A6 L.length c6] 51)).alloc (.cells #[.int .i64 0] 3) = u := ⟨_, rfl⟩
      have hs7 : w7.heap.size = w6.heap.size + 2 := by rw [← hw7]; simp
      rw [hw7] at hm0
      simp only [hw7]
      clear hw7
      have HM7 := hide hm0
      have HQ7 := hide (((unhide HQ).new (unhide HB6)).new hm0.below)
      have hrw := (unhide HQ7).one.net
      clear hm0 HQ
      have hle7 : w6.heap.size + 2 ≤ w7.heap.size := Nat.le_of_eq hs7.symm
      clear hs7
      go_wp2_with (go_at_call 24; refine ((callsIn_wide (n := 5)).1 (ways_in Fence.wide 5 trivial rfl _ _)).mono ?_; rintro e w8 ⟨rfl, rfl⟩)
      refine (wpIn_wide (n := 6)).1 ?_
      gi_wp2
      have HNA : Hid (NetAt (w7.alloc (.cells #[.pointer (some ⟨p, 0, none⟩)] 22)) w.heap.size p s) := hide (hrw.new ((Below.refl _ _).alloc (Nat.le_refl _) _))
      clear hrw
      refine wpIn_rangeFunc_ownF rfl (by omega) (gf := 37) (lb := #[.pointer (some ⟨w7.heap.size, 0, none⟩)]) rfl trivial (enters_of Try.func37 (by kernel_rfl) rfl)
        (ways_stops 5 (by omega) w7.heap.size (w6.heap.size + 1) w.heap.size p s _ (by simp) (by simp; omega) ?hc (by omega) (unhide HNA)) KeepU.t (KeepU.b (by simp; omega) (by simp)) (Below.refl _ _) (fun _ => rfl)
        (fun pre W => (W.cell? ⟨w6.heap.size + 1, 0, none⟩ = some (.int .i64 (pre.length : Int)) ∧ W.frozen? ⟨w6.heap.size + 1, 0, none⟩ = false ∧ pre = L.take pre.length ∧ pre.length ≤ L.length) ∧ Below (w6.heap.size + 1) w7 W)
        (fun cd pre W => cd = .ret ∧ ¬ (pre = L.take pre.length ∧ pre.length ≤ L.length))
        ?hI ?hIx ?h0 ?a1 ?assign ?body ?done ?stop
      case assign =>
        intro l1 x W K hK
        gi_wp2
        exact hK
      case hc => exact (Blk.new w7 _ _).cell 0
      case h0 => exact ⟨⟨((unhide HM7).blk0.alloc _).cell 0, ((unhide HM7).blk0.alloc _).frozen 0, rfl, Nat.zero_le _⟩, (Below.refl _ _).alloc (by omega) _⟩
      case hI => exact OwnFrom.and (Own.from (fun s A B row hs hg hr => ⟨cell_kept hs.1 hg hr, (frozen_kept hs.1 hg hr).trans hs.2.1, hs.2.2⟩) _) (ownFrom_below (by omega) (by simp; omega))
      case hIx => exact fun cd pre A B row hs _ _ => hs
      case body =>
        rintro l1 pre x W ⟨⟨hc1, hf1, hpm, hpl⟩, hB⟩ _
        have b7 := (unhide HM7).blk1.below hB (by omega)
        have c7W : W.cell? ⟨w6.heap.size, 0, none⟩ = some (.slice A6 L.length c6) := b7.cell 0
        have br := (unhide HQ7).res.below hB (by have := (unhide HQ7).res.lt; have h2 := (unhide HQ7).one.net.base; omega)
        have c4W : W.cell? ⟨w.heap.size, 0, none⟩ = some (.bool false) := br.cell 0
        have f4W := br.frozen 0
        clear b7 br
        have HPM := hide hpm
        clear hpm
        by_cases hlp : pre.length < L.length
        · have g1 : decide ((L.length : Int) ≤ (pre.length : Int)) = false := decide_eq_false (by omega)
          have g1' : decide (L.length ≤ pre.length) = false := decide_eq_false (by omega)
          obtain ⟨y, hy⟩ : ∃ y, L[pre.length]? = some y := ⟨_, List.getElem?_eq_getElem hlp⟩
          have ho7 := own_only (unhide HO6) (Only.of_new (S := fun _ => False) (unhide HM7).below) (fun _ _ h => h)
          obtain ⟨g6, cap6, hv6, hg6, hgl6⟩ := (unhide HO6).form (by omega)
          obtain rfl : A6 = some ⟨g6, 0, none⟩ := by injection hv6
          have how := own_only ho7 (Only.of_below (S := fun k => w6.heap.size + 1 ≤ k) hB (fun k h1 _ => h1)) (fun k hk h => by have := ((unhide HO6).lt k hk).2; omega)
          have hat := wCells_at L _ y hy
          have hwcl := wCells_len L
          have d0 : W.cell? ⟨g6, pre.length * 2, none⟩ = some (.int .i64 (y.1 : Int)) := (how.cellAt _ (by omega)).trans hat.1
          have d1 : W.cell? ⟨g6, pre.length * 2 + 1, none⟩ = some (.int .i64 (y.2 : Int)) := (how.cellAt _ (by omega)).trans hat.2
          have hi0 : (0 : Int) ≤ (pre.length : Int) := by omega
          have hi1 : (pre.length : Int) < (L.length : Int) := by omega
          have HAP := hide (show L.take (pre.length + 1) = pre ++ [y] by rw [List.take_add_one, hy, ← unhide HPM]; rfl)
          clear ho7 how hat hv6 hy
          by_cases hxy : y = x
          · subst hxy
            have heq : ∀ u : World, (Op.equalIn 10000 56 (.agg #[.int .i64 (y.1 : Int), .int .i64 (y.2 : Int)]) (.agg #[.int .i64 (y.1 : Int), .int .i64 (y.2 : Int)])).run Try.prog u = .ok true u := fun u => by rw [eql_pair y y u]; simp
            gi_wp2
            refine ⟨KeepsOthers.setCell _ _ _, ⟨(Below.refl _ W).setCell (p := ⟨w6.heap.size + 1, 0, none⟩) (Nat.le_refl _) _, Below.heap_setCell _ _ _ _ (by simp; omega)⟩, ⟨?_, by rw [World.frozen?_setCell]; exact hf1, ?_, by simp; omega⟩, hB.setCell (p := ⟨w6.heap.size + 1, 0, none⟩) (Nat.le_refl _) _⟩
            · rw [List.length_append, List.length_singleton]
              exact World.cell?_setCell_same' _ _ _ (by rw [hc1]; rfl)
            · rw [List.length_append, List.length_singleton, unhide HAP]
          · have heq : ∀ u : World, (Op.equalIn 10000 56 (.agg #[.int .i64 (y.1 : Int), .int .i64 (y.2 : Int)]) (.agg #[.int .i64 (x.1 : Int), .int .i64 (x.2 : Int)])).run Try.prog u = .ok false u := fun u => by rw [eql_pair y x u, decide_eq_false hxy]
            gi_wp2
            refine ⟨KeepsOthers.setCell _ _ _, ⟨rfl, fun h => ?_⟩⟩
            have h1 := h.1
            rw [List.length_append, List.length_singleton, unhide HAP] at h1
            have h2 := List.append_cancel_left h1
            injection h2 with h2
            exact hxy h2.symm
        · have g1 : decide ((L.length : Int) ≤ (pre.length : Int)) = true := decide_eq_true (by omega)
          have g1' : decide (L.length ≤ pre.length) = true := decide_eq_true (by omega)
          gi_wp2
          refine ⟨KeepsOthers.setCell _ _ _, ⟨rfl, fun h => ?_⟩⟩
          have h1 := h.2
          simp at h1
          omega
      case done =>
        rintro D ys W hD rfl ⟨⟨hc1, hf1, hpm, hpl⟩, hB⟩ hK
        rw [unhide HLL] at hc1
        have HD := hide hD
        have HK0 := hide hK
        have b7 := (unhide HM7).blk1.below hB (by omega)
        have hQW := (unhide HQ7).below.trans (hB.mono (by have h2 := (unhide HQ7).one.net.base; omega))
        have br := (unhide HQ7).res.below hB (by have := (unhide HQ7).res.lt; have h2 := (unhide HQ7).one.net.base; omega)
        have HB7 := hide b7; have HBR := hide br; have HQW := hide hQW
        have feq : ((L.length : Int) == (L.length : Int)) = true := beq_self_eq_true _
        clear hpm hpl hf1 hK hD hB b7 br hQW
        have hcl := cell_lt hc1
        go_wp2_with (go_at_call 10; refine (unhide HA _).mono ?_; rintro _ w9 ⟨rfl, hb9⟩
                     have HK9 := hide ((hb9.block D (Array.getElem?_eq_some_iff.1 (unhide HK0)).1).trans (unhide HK0)); have c1 : w9.cell? ⟨w6.heap.size + 1, 0, none⟩ = some (.int .i64 (L.length : Int)) := (hb9.cell (p := ⟨w6.heap.size + 1, 0, none⟩) hcl).trans hc1
                     have c7 : w9.cell? ⟨w6.heap.size, 0, none⟩ = some (.slice A6 L.length c6) := ((unhide HB7).below hb9 (unhide HB7).lt).cell 0; have br9 := (unhide HBR).below hb9 (unhide HBR).lt; have c4 : w9.cell? ⟨w.heap.size, 0, none⟩ = some (.bool false) := br9.cell 0; have f4 := br9.frozen 0; have HQ9 := hide ((unhide HQW).trans (hb9.mono (unhide HQW).size)); have HR9 := hide br9; clear hb9 br9)
        have hD := unhide HD
        have hK' := (KeepsOthers.setCell w9 ⟨w.heap.size, 0, none⟩ (.bool true)).same D _ (unhide HK9) rfl
        refine ⟨by simp, .inl ⟨_, _, rfl, run_takeDeferred hK', ?_⟩⟩
        have hr5 := (unhide HR9).set_ 0 (.bool true)
        have hc5 := cell_kept (hr5.cell 0) (grownBy_putObj' _ D (.deferred none)) (fun r e => by cases e; exact ⟨_, hK', rfl⟩)
        refine ⟨.bool true, ?_, rfl, ((unhide HQ9).setCell (p := ⟨w.heap.size, 0, none⟩) (Nat.le_refl _) (.bool true)).trans (belowK_b (w := w) (Nat.le_refl _) _ D _ (.deferred none) (by have h1 := (unhide HQ7).below.size; simp at hD; omega) hK' rfl rfl)⟩
        exact results_cell_bool rfl Try.underlying4 _ _ ⟨w.heap.size, 0, none⟩ true rfl hc5
      case stop =>
        rintro D cd pre W hD ⟨k0, hk0, rfl, _⟩ hix hK
        exact absurd (unhide HTK k0 hk0) hix.2
end Go.Proofs.Ytbclfiollfagmaa
