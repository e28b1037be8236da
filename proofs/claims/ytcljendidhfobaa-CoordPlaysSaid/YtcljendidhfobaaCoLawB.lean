/- A transaction's stamp (CoordStamps). -/
import Derived.Test.YtcljendidhfobaaCoOne
import Derived.Test.YtcljendidhfobaaMapR
import Derived.Test.YtcljendidhfobaaCoLawA
namespace Go.Proofs.Ytcljendidhfobaa
set_option linter.unusedVariables false
open Go.RowKit

theorem fewQ_of_none {l : List Sq} (h : l = []) : fewQ l = [] := by subst h; rfl
theorem few_vs (l : List Sq) : ∀ s ∈ fewQ l, s.vs.length ≤ 4096 := by
  intro s hs
  obtain ⟨x, _, rfl⟩ := List.mem_map.1 hs
  simp [fewOne]
  omega
/-- few's shares, in its own row and where the versions lie -/
theorem few_at {w w' : World} {B : Nat} {A A2 : Option Addr} {c c2 : Nat} {l : List Sq} (h : InShs w B A c l) (hb : Below B w w') (hB : B ≤ w.heap.size) (ho : w'.ownsRow w.heap.size 28 2 (.slice A2 (fewQ l).length c2) (fewQ l).length (srow (fewQ l))) : ShsAt w' (fun k => k < w'.heap.size) A2 (fewQ l) := by
  refine ⟨RdS.of_own ho fun k hk => (ho.lt k hk).2, fun s hs => ?_⟩
  obtain ⟨x, hx, rfl⟩ := List.mem_map.1 hs
  have hm := List.mem_of_mem_take hx
  have hr := (h.at_.vers x hm).below hb fun _ hk => hk
  have e : vrow (x.vs.take 8) = (vrow x.vs).take (8 * 6) := by
    unfold vrow
    have : ∀ (l : List Vr) (n : Nat), (l.take n).flatMap Vr.cs = (l.flatMap Vr.cs).take (n * 6) := by
      intro l
      induction l with
      | nil => intro n; simp
      | cons v r ih =>
        intro n
        cases n with
        | zero => simp
        | succ n =>
          have e6 : v.cs.length = 6 := rfl
          have t1 : v.cs.take ((n + 1) * 6) = v.cs := List.take_of_length_le (by rw [e6]; omega)
          rw [List.take_succ_cons, List.flatMap_cons, List.flatMap_cons, ih n, List.take_append, t1, e6, show (n + 1) * 6 - 6 = n * 6 by omega]
    exact this _ _
  show RdS w' _ x.A (vrow (x.vs.take 8))
  rw [e]
  exact (hr.take _).more fun k (hk : k < B) => Nat.lt_of_lt_of_le hk (Nat.le_trans hB hb.size)
/-- what the loop over the votes knows -/
structure TopInv (V : List (Int × Int)) (left : Int → Bool) (t : Int) : Prop where
  ge : ∀ v ∈ V, left v.1 = false → v.2 ≤ t
  is : t = 0 ∨ ∃ v ∈ V, v.2 = t
theorem TopInv.start (V : List (Int × Int)) (hk : (V.map (·.1)).Nodup) : TopInv V (fun b => ((V.lookup b).map (Value.int .u64)).isSome) 0 :=
  ⟨fun v hv h => absurd h (by rw [look_of_mem hk hv]; simp), .inl rfl⟩
theorem TopInv.step {V : List (Int × Int)} {left : Int → Bool} {t x c : Int} (h : TopInv V left t) (hk : (V.map (·.1)).Nodup) (hx : V.lookup x = some c) : TopInv V (fun b => left b && !decide (b = x)) (if t < c then c else t) := by
  refine ⟨fun v hv hl => ?_, ?_⟩
  · by_cases c1 : v.1 = x
    · have := look_of_mem hk hv
      rw [c1, hx] at this
      injection this with this
      split <;> omega
    · have hlv : left v.1 = false := by
        rw [show decide (v.1 = x) = false from decide_eq_false c1] at hl
        simpa using hl
      have := h.ge v hv hlv
      split <;> omega
  · split
    · exact .inr ⟨(x, c), look_mem hx, rfl⟩
    · exact h.is
theorem TopInv.done {V : List (Int × Int)} {left : Int → Bool} {t low : Int} (h : TopInv V left t) (he : ∀ v ∈ V, low < v.2 ∧ 0 ≤ v.2 ∧ -9223372036854775808 ≤ v.1 ∧ v.1 ≤ 9223372036854775807) (hd : ∀ b : Int, (Lit.int .i64 b).wf = true → left b = false) : t = topV V :=
  topV_uniq (fun v hv => (he v hv).2.1) (fun v hv => h.ge v hv (hd _ (wfi (he v hv).2.2.1 (he v hv).2.2.2))) h.is
theorem len_none (S : Nat → Prop) (p : Nat) (w : World) (h : TabAt w S p []) : Calls Try.prog 15 #[.pointer (some ⟨p, 0, none⟩)] w fun e w' => e = .returned (.int .i64 0) ∧ w = w' := len_tab S p [] w h
theorem len_one (S : Nat → Prop) (p : Nat) (e : Et) (w : World) (h : TabAt w S p [e]) : Calls Try.prog 15 #[.pointer (some ⟨p, 0, none⟩)] w fun r w' => r = .returned (.int .i64 1) ∧ w = w' := len_tab S p [e] w h
set_option maxHeartbeats 16000000 in
set_option maxRecDepth 20000 in
theorem coordStamps_any (low : Int) (A B : Option Addr) (c d : Nat) (l : List Sq) (r : List COp) (w : World) (hi : InShs w w.heap.size A c l) (hr : InCOps w w.heap.size B r) (hrd : r.length ≤ d) (hd : d ≤ 9223372036854775807) (hl0 : 0 ≤ low) (hl1 : low ≤ 18446744073709551615) :
    Calls Try.prog 4 #[.int .u64 low, .slice A l.length c, .slice B r.length d] w fun e w' => e = .returned (.bool true) ∧ Below w.heap.size w w' := by
  have HA := hide awake_any
  have HN := hide (new_tab w)
  have HI := hide hi
  have HR := hide hr
  clear hi hr
  by_cases hne : fewQ l = []
  · have h0 : (fewQ l).length = 0 := by rw [hne]; rfl
    have H0 := hide h0
    clear h0 hne
    go_enter Try.func4, Try.ntmps4
    go_wp2_with (first
      | (go_at_call 8; refine (unhide HN).mono ?_; rintro _ w1 ⟨p, rfl, ht1, hb1⟩
         have HT1 := hide ht1; have HB1 := hide hb1; clear ht1 hb1)
      | (go_at_call 9; refine (few_any A c l _ (((unhide HI).below (unhide HB1)).more (unhide HB1).size)).mono ?_; rintro _ w2 ⟨A2, c2, rfl, ho2, hc2, hb2⟩
         have hat := few_at ((unhide HI).below (unhide HB1)) (hb2.mono (unhide HB1).size) (unhide HB1).size ho2
         have HT2 := hide ((unhide HT1).new hb2); have HAT := hide hat; have HC2 := hide hc2
         have HB2 := hide ((unhide HB1).trans (hb2.mono (unhide HB1).size)); have hs2 := (unhide HB1).size; clear hb2 ho2 hat hc2; rw [unhide H0])
      | (go_at_call 10; with_reducible refine Calls.mono (start_empty p 9 low A2 c2 _) ?_; rintro _ w3 ⟨rfl, rfl⟩; have hb3 := Below.refl w2.heap.size w2
         have HT3 := hide ((unhide HT2).new hb3); have HB3 := hide ((unhide HB2).trans (hb3.mono (unhide HB2).size)); have hs3 := (unhide HB2).size; clear hb3)
      | (go_at_call 11; refine (unhide HA _).mono ?_; rintro _ w6 ⟨rfl, hb6⟩; have HT7 := hide ((unhide HT3).new hb6); have HB7 := hide ((unhide HB3).trans (hb6.mono (unhide HB3).size)); clear hb6)
      | (go_at_call 15; with_reducible refine Calls.mono (len_none _ p _ (unhide HT7)) ?_; rintro _ w8 ⟨rfl, rfl⟩))
    go_ret
    exact ⟨rfl, unhide HB7⟩
  by_cases hap : Apart ((fewQ l).map Sq.sh)
  · have HNE := hide hne
    have HAP := hide hap
    have hn6 := fewQ_len l
    clear hne hap
    have hmm := @run_makeMap Try.prog
    go_enter Try.func4, Try.ntmps4
    go_wp2_with (first
      | (go_at_call 8; refine (unhide HN).mono ?_; rintro _ w1 ⟨p, rfl, ht1, hb1⟩
         have HT1 := hide ht1; have HB1 := hide hb1; clear ht1 hb1)
      | (go_at_call 9; refine (few_any A c l _ (((unhide HI).below (unhide HB1)).more (unhide HB1).size)).mono ?_; rintro _ w2 ⟨A2, c2, rfl, ho2, hc2, hb2⟩
         have hat := few_at ((unhide HI).below (unhide HB1)) (hb2.mono (unhide HB1).size) (unhide HB1).size ho2
         have HT2 := hide ((unhide HT1).new hb2); have HAT := hide hat; have HC2 := hide hc2
         have HB2 := hide ((unhide HB1).trans (hb2.mono (unhide HB1).size)); have hs2 := (unhide HB1).size; clear hb2 ho2 hat hc2)
      | (go_at_call 10; with_reducible refine Calls.mono (start_any _ _ p [] 9 low A2 c2 (fewQ l) _ (unhide HT2) (by omega) (by omega) rfl (by simp) (unhide HNE) (by omega) (unhide HC2) (unhide HAT) (few_vs l)) ?_; rintro _ w3 (⟨hx, _⟩ | ⟨_, rfl, ht3, ho3⟩)
         · exact absurd (unhide HAP) hx
         have HT3 := hide ht3; have HB3 := hide ((unhide HB2).trans (ho3.below (unhide HB2).size fun k hk => hk.1)); have hs3 := (unhide HB2).size; clear ht3 ho3))
    obtain ⟨S, hS⟩ : ∃ S : Nat → Prop, (fun k => (w.heap.size ≤ k ∧ k < w1.heap.size) ∨ (w2.heap.size ≤ k ∧ k < w3.heap.size)) = S := ⟨_, rfl⟩
    have hSg : ∀ k, S k → w.heap.size ≤ k := fun k hk => by
      rw [← hS] at hk
      rcases hk with hk | hk
      · exact hk.1
      · exact Nat.le_trans hs3 hk.1
    have HSG := hide hSg
    have hb4 : Below w3.heap.size w3 (w3.alloc (.map #[] 0)) := (Below.refl _ _).alloc (Nat.le_refl _) _
    have hk4 := Kq.made (P := Try.prog) (k := 3) (q := .i64) (z := .int .u64 0) w3
    have ht4 : TabAt w3 S p [⟨9, low, (fewQ l).map Sq.sh, [], []⟩] := hS ▸ unhide HT3
    have hvm : ¬ S w3.heap.size := fun h => Nat.lt_irrefl _ (ht4.lt _ h)
    have hvg : w.heap.size ≤ w3.heap.size := (unhide HB3).size
    have HT4 := hide (ht4.new hb4)
    have HB4 := hide ((unhide HB3).trans (hb4.mono hvg))
    have HK4 := hide hk4
    obtain ⟨w4, hw4⟩ : ∃ u, w3.alloc (.map #[] 0) = u := ⟨_, rfl⟩
    rw [hw4] at HT4 HB4 HK4 ⊢
    obtain ⟨vm, hvm2⟩ : ∃ u, w3.heap.size = u := ⟨_, rfl⟩
    rw [hvm2] at HK4 hvm hvg ⊢
    obtain ⟨n, hn⟩ : ∃ n, (fewQ l).length = n := ⟨_, rfl⟩
    have hn0 : n ≠ 0 := fun e => unhide HNE (List.eq_nil_of_length_eq_zero (hn.trans e))
    have HNN := hide hn
    rw [hn] at hn6 ⊢
    clear hS hSg hb4 hk4 ht4 hw4 hvm2 hn HT3 HB3 HT2 HB2 HT1 HB1 HAT HC2 hs2 hs3 HN hmm
    clear w1 w2 w3
    go_loopw [10, 11, 12] (fun dv gv iv wr => ∃ (k : Nat) (e : Et) (gn : Bool), k ≤ r.length ∧ k ≤ 80 ∧ iv = .int .i64 k ∧ dv = .bool e.dec ∧ gv = .bool gn ∧ TabAt wr S p (oneT gn e) ∧ Kq Try.prog 3 .i64 (.int .u64 0) wr vm e.votes.length (fun a => (e.votes.lookup a).map (Value.int .u64)) ∧ StOk e low k n ∧ Below w.heap.size w wr) (fun _ _ iv _ => r.length - (intOf iv).toNat)
    case atStart =>
      refine ⟨0, ⟨9, low, (fewQ l).map Sq.sh, [], []⟩, false, by omega, by omega, rfl, ?_, rfl, unhide HT4, (unhide HK4).ext fun a _ => rfl, ⟨rfl, rfl, by rw [← unhide HNN]; simp, by simp, by simp, by simp, by simp, by simp⟩, unhide HB4⟩
      have : Et.dec ⟨9, low, (fewQ l).map Sq.sh, [], []⟩ = false := beq_eq_false_iff_ne.2 (by
        rw [List.length_map, unhide HNN]
        simp
        omega)
      rw [this]
    case round =>
      clear HT4 HB4 HK4
      obtain ⟨k, e, gn, hk, hk80, rfl, rfl, rfl, ht, hkq, hst, hb⟩ := hrel
      have HB := hide hb
      have HT := hide ht
      have HK := hide hkq
      have HST := hide hst
      have hsz := hb.size
      by_cases hgo : k < r.length ∧ k < 80
      · obtain ⟨hlt, h80⟩ := hgo
        obtain ⟨o, ho⟩ : ∃ x, r[k]? = some x := ⟨r[k], List.getElem?_eq_getElem hlt⟩
        obtain ⟨⟨ad, hA, hadl, hc⟩, hok⟩ := ((unhide HR).below (unhide HB)) k o ho
        subst hA
        obtain ⟨kd, tx, t, nd, A5, c5, l5, lo, hi⟩ := o
        have c0 : wr.cell? (ad.add (k * 7)) = some (.int .i64 kd) := hc 0 _ rfl
        have c1 : wr.cell? ⟨(ad.add (k * 7)).block, (ad.add (k * 7)).off + 1, none⟩ = some (.int .u64 tx) := by have := hc 1 _ rfl; rw [← Addr.add_add] at this; exact this
        have c2 : wr.cell? ⟨(ad.add (k * 7)).block, (ad.add (k * 7)).off + 2, none⟩ = some (.int .u64 t) := by have := hc 2 _ rfl; rw [← Addr.add_add] at this; exact this
        have c3 : wr.cell? ⟨(ad.add (k * 7)).block, (ad.add (k * 7)).off + 3, none⟩ = some (.int .i64 nd) := by have := hc 3 _ rfl; rw [← Addr.add_add] at this; exact this
        have c4 : wr.cell? ⟨(ad.add (k * 7)).block, (ad.add (k * 7)).off + 4, none⟩ = some (.slice A5 l5.length c5) := by have := hc 4 _ rfl; rw [← Addr.add_add] at this; exact this
        have c5' : wr.cell? ⟨(ad.add (k * 7)).block, (ad.add (k * 7)).off + 5, none⟩ = some (.string lo) := by have := hc 5 _ rfl; rw [← Addr.add_add] at this; exact this
        have c6 : wr.cell? ⟨(ad.add (k * 7)).block, (ad.add (k * 7)).off + 6, none⟩ = some (.string hi) := by have := hc 6 _ rfl; rw [← Addr.add_add] at this; exact this
        have ht0 : 0 ≤ t := hok.t0
        have hn0' : -9223372036854775808 ≤ nd := hok.n0
        have hn1' : nd ≤ 9223372036854775807 := hok.n1
        have hb5 : Below wr.heap.size wr (wr.alloc (.cells #[.int .i64 kd, .int .u64 tx, .int .u64 t, .int .i64 nd, .slice A5 l5.length c5, .string lo, .string hi] 44)) := (Below.refl _ _).alloc (Nat.le_refl _) _
        have hq5 : Blk (wr.alloc (.cells #[.int .i64 kd, .int .u64 tx, .int .u64 t, .int .i64 nd, .slice A5 l5.length c5, .string lo, .string hi] 44)) wr.heap.size 44 #[.int .i64 kd, .int .u64 tx, .int .u64 t, .int .i64 nd, .slice A5 l5.length c5, .string lo, .string hi] := Blk.new _ _ _
        have HT5 := hide ((unhide HT).new hb5)
        have HK5 := hide ((unhide HK).only (S := fun _ => False) (Only.of_new hb5) (fun h => h))
        have HB5 := hide ((unhide HB).trans (hb5.mono hsz))
        have hoS : ¬ S wr.heap.size := fun h => Nat.lt_irrefl _ ((unhide HT).lt _ h)
        have hov : wr.heap.size ≠ vm := fun e => by have := (unhide HK).lt; omega
        obtain ⟨w5, hw5⟩ : ∃ u, wr.alloc (.cells #[.int .i64 kd, .int .u64 tx, .int .u64 t, .int .i64 nd, .slice A5 l5.length c5, .string lo, .string hi] 44) = u := ⟨_, rfl⟩
        rw [hw5] at hq5 HT5 HK5 HB5
        obtain ⟨d0, d1, d2, d3, d4, d5, d6⟩ := copAt hq5
        have hgl5 := hq5.lt
        have HQ5 := hide hq5
        have hs5 := (unhide HB5).size
        clear ht hkq hst hb hc hok ho hb5 hq5 hadl HT HK HB
        by_cases h1 : kd = 1
        · have g1 : (kd == 1) = true := beq_iff_eq.2 h1
          clear h1
          cases gn with
          | true =>
            go_wp2_with (go_at_call 16; with_reducible refine Calls.mono (gone_vote (unhide HT5)) ?_; rintro _ w6 ⟨rfl, rfl⟩)
            exact ⟨⟨k + 1, e, true, by omega, by omega, by go_num, rfl, rfl, unhide HT5, unhide HK5, (unhide HST).next, unhide HB5⟩, by simp [intOf]; omega⟩
          | false =>
            have HT6 : Hid (TabAt w5 S p [e]) := HT5
            have hlen : e.shs.length ≤ 4096 := by have := (unhide HST).len; omega
            have hvl : e.votes.length ≤ 4096 := by have := (unhide HST).vl; omega
            cases hv : votedE e nd t with
            | false =>
              have HC := hide (one_vote_no (t := t) (unhide HT6) (unhide HST).tx hlen hn0' hn1' hv)
              clear hv
              go_wp2_with (go_at_call 16; with_reducible refine Calls.mono (unhide HC) ?_; rintro _ w6 ⟨er, her, rfl, hb6⟩; have f1 : (er == 0) = false := beq_eq_false_iff_ne.2 her; have HB6 := hide hb6; clear hb6 her)
              exact ⟨⟨k + 1, e, false, by omega, by omega, by go_num, rfl, rfl, (unhide HT6).new (unhide HB6), (unhide HK5).only (S := fun _ => False) (Only.of_new (unhide HB6)) (fun h => h), (unhide HST).next, (unhide HB5).trans ((unhide HB6).mono hs5)⟩, by simp [intOf]; omega⟩
            | true =>
              have hud := (unhide HST).undec hv
              have hst2 := (unhide HST).vote hv ht0 hn0' hn1'
              obtain ⟨_, hlk, hlo⟩ := votedE_yes hv
              have g2 : decide (t ≤ low) = false := decide_eq_false (by have := (unhide HST).elow; omega)
              obtain ⟨N, hN⟩ : ∃ N, e.votes.length + 1 = N := ⟨_, rfl⟩
              obtain ⟨D, hD⟩ : ∃ D, (voteE e nd t).dec = D := ⟨_, rfl⟩
              have hd : ((N : Int) == (n : Int)) = D := by
                have := (unhide HST).len
                subst hN hD
                simp [Et.dec, voteE, this]
              obtain ⟨tp, htp⟩ : ∃ tp, (if D then topV (voteE e nd t).votes else 0) = tp := ⟨_, rfl⟩
              have HC := hide (one_vote_yes (t := t) (D := D) (tp := tp) (unhide HT6) (unhide HST).tx hlen hvl hn0' hn1' hv hD (fun h => by subst h; exact htp) (fun h => by subst h; exact htp.symm))
              have HUD := hide hud; have HST2 := hide hst2; have HLK := hide hlk; have HNN2 := hide hN; have HDD := hide hD; have HTP := hide htp
              clear hv hst2 hlk hlo hN hD htp hud
              cases D with
              | false =>
                have htp0 : tp = 0 := (unhide HTP).symm
                subst htp0
                go_wp2_with (first
                  | (go_at_call 16; with_reducible refine Calls.mono (unhide HC) ?_; rintro _ w6 ⟨rfl, ht6, ho6⟩
                     have hk6 := (unhide HK5).only ho6 hvm
                     have hq6 := (unhide HQ5).only ho6 hoS
                     obtain ⟨d60, d61, d62, d63, d64, d65, d66⟩ := copAt hq6
                     have hgl6 := hq6.lt
                     have fl := Kq.lookOk hk6 Try.underlying3 Try.underlying42 (t := 42) (fun w => rfl) (wfi hn0' hn1')
                     simp only [unhide HLK, Option.map_none, Option.getD_none, Option.isSome_none] at fl
                     obtain ⟨w7, hrun7, hk7, ho7, hs7⟩ := Kq.store hk6 Try.underlying3 Try.underlying42 (t := 42) (by simp only [maxLen]; omega) (wfi hn0' hn1') (by rw [unhide HLK]; rfl) (.int .u64 t)
                     rw [unhide HNN2] at hk7
                     have flen := fun ty => Kq.len hk7 Try.underlying42 (t := 42) ty
                     have HT7 := hide (ht6.only ho7 (fun k hk e => hvm (e ▸ hk)))
                     have HB7 := hide (((unhide HB5).trans (ho6.below hs5 (unhide HSG))).trans (ho7.below (Nat.le_trans hs5 ho6.size) (fun k hk => by rw [hk]; exact hvg)))
                     have HK7 := hide hk7
                     clear ht6 ho6 hk6 hq6 hk7 ho7 hs7))
                refine ⟨⟨k + 1, voteE e nd t, false, by omega, by omega, by go_num, by rw [unhide HUD, unhide HDD], rfl, unhide HT7, ?_, unhide HST2, unhide HB7⟩, by simp [intOf]; omega⟩
                have hnl : (voteE e nd t).votes.length = N := by rw [← unhide HNN2]; simp [voteE]
                rw [hnl]
                refine (unhide HK7).ext fun a _ => ?_
                show _ = ((e.votes ++ [(nd, t)]).lookup a).map (Value.int .u64)
                rw [look_app _ _ _ _ (unhide HLK)]
                unfold upd
                split <;> rfl
              | true =>
                have htop : topV (voteE e nd t).votes = tp := unhide HTP
                have hud2 : e.dec = false := unhide HUD
                obtain rfl : N = n := by have := eq_of_beq hd; omega
                have hV : ∃ V, (voteE e nd t).votes = V := ⟨_, rfl⟩
                have hnl : (voteE e nd t).votes.length = N := by rw [← unhide HNN2]; simp [voteE]
                obtain ⟨V, hV⟩ := hV
                have heach := (unhide HST2).each
                have hkeys := (unhide HST2).keys
                rw [hV] at htop hnl heach hkeys
                have hlt3 : low < tp := by rw [← htop]; exact topV_gt (fun v hv => (heach v hv).1) (fun h => by rw [h] at hnl; have := unhide HNN2; simp at hnl; omega)
                have g3 : decide (tp ≤ low) = false := decide_eq_false (by omega)
                have HVV := hide hV; have HNL := hide hnl; have HEA := hide heach; have HKE := hide hkeys; have HTO := hide htop
                clear hV hnl heach hkeys htop hlt3
                have hext : ∀ a : Int, (Lit.int .i64 a).wf = true → upd (fun a => (e.votes.lookup a).map (Value.int .u64)) nd (some (.int .u64 t)) a = (V.lookup a).map (Value.int .u64) := fun a _ => by
                  rw [← unhide HVV]
                  show _ = ((e.votes ++ [(nd, t)]).lookup a).map (Value.int .u64)
                  rw [look_app _ _ _ _ (unhide HLK)]
                  unfold upd
                  split <;> rfl
                have HEX := hide hext
                clear hext
                go_wp2_with (first
                  | (go_at_call 16; with_reducible refine Calls.mono (unhide HC) ?_; rintro _ w6 ⟨rfl, ht6, ho6⟩
                     have hk6 := (unhide HK5).only ho6 hvm
                     have hq6 := (unhide HQ5).only ho6 hoS
                     obtain ⟨d60, d61, d62, d63, d64, d65, d66⟩ := copAt hq6
                     have hgl6 := hq6.lt
                     have fl := Kq.lookOk hk6 Try.underlying3 Try.underlying42 (t := 42) (fun w => rfl) (wfi hn0' hn1')
                     simp only [unhide HLK, Option.map_none, Option.getD_none, Option.isSome_none] at fl
                     obtain ⟨w7, hrun7, hk7, ho7, hs7⟩ := Kq.store hk6 Try.underlying3 Try.underlying42 (t := 42) (by simp only [maxLen]; omega) (wfi hn0' hn1') (by rw [unhide HLK]; rfl) (.int .u64 t)
                     rw [unhide HNN2] at hk7
                     have hk7' := hk7.ext (unhide HEX)
                     have HT7 := hide (ht6.only ho7 (fun k hk e => hvm (e ▸ hk)))
                     have HB7 := hide (((unhide HB5).trans (ho6.below hs5 (unhide HSG))).trans (ho7.below (Nat.le_trans hs5 ho6.size) (fun k hk => by rw [hk]; exact hvg)))
                     have HK7 := hide hk7'
                     clear ht6 ho6 hk6 hq6 hk7 hk7' ho7 hs7)
                  | (at_range; refine wpList_range_kq _ rfl (.tmp 107) rfl Try.underlying3 Try.underlying42 rfl (unhide HK7) ?_
                     intro w8 hrg8 hg8 hs8
                     have HRG8 := hide hrg8
                     have HO8 := hide (Only.of_grown (S := fun _ => False) hg8 (fun k e => by cases e))
                     have hr7 : vm < w7.heap.size := (unhide HK7).lt
                     clear hrg8 hg8 hs8 hrun7))
                go_frame
                clear d60 d61 d62 d63 d64 d65 d66 d0 d1 d2 d3 d4 d5 d6 hgl6 hgl5 fl
                obtain ⟨rr, hrr⟩ : ∃ u, w7.heap.size = u := ⟨_, rfl⟩
                have HRR := hide hrr
                rw [hrr] at HRG8 hr7 ⊢
                clear hrr
                go_loopw [19] (fun tv wx => ∃ (left : Int → Bool) (cnt : Nat) (t2 : Int), tv = .int .u64 t2 ∧ Rq Try.prog 3 .i64 (.int .u64 0) wx vm rr N (fun a => (V.lookup a).map (Value.int .u64)) left cnt ∧ TopInv V left t2 ∧ Only (fun k => k = rr) w8 wx) (fun _ wx => wx.rangeLeft vm rr)
                case atStart => exact ⟨_, _, 0, rfl, unhide HRG8, TopInv.start V (unhide HKE), Only.refl _ _⟩
                case round =>
                  obtain ⟨left, cnt, t2, rfl, hrg, hti, ho⟩ := hrel
                  have HRG := hide hrg; have HTI := hide hti; have HO := hide ho
                  clear hrg hti ho
                  go_wp2_with (at_next; refine wpList_next_kq _ rfl (.tmp 108) rfl Try.underlying3 rfl (unhide HRG) ?_ ?_)
                  · intro hdone
                    have ht2 : t2 = tp := ((unhide HTI).done (unhide HEA) hdone).trans (unhide HTO)
                    subst ht2
                    have flen := fun ty => Kq.len (unhide HRG).kq Try.underlying42 (t := 42) ty
                    have HDN := hide hdone
                    clear hdone
                    go_wp2_with fail
                    have ho7 : Only (fun k => w7.heap.size ≤ k) w7 wr := ((unhide HO8).mono fun k _ h => h.elim).trans ((unhide HO).mono fun k _ h => by rw [h, ← unhide HRR]; exact Nat.le_refl _)
                    have HO7 := hide ho7
                    clear ho7
                    go_roundw
                    case rel =>
                      refine ⟨k + 1, voteE e nd t, false, by omega, by omega, by go_num, by rw [unhide HDD], rfl, (unhide HT7).only (unhide HO7) (fun k hk h => Nat.lt_irrefl _ (Nat.lt_of_le_of_lt h ((unhide HT7).lt k hk))), ?_, unhide HST2, (unhide HB7).trans ((unhide HO7).below (unhide HB7).size fun k hk => Nat.le_trans (unhide HB7).size hk)⟩
                      rw [unhide HVV, unhide HNL]
                      exact (unhide HRG).kq
                    case measure => simp [intOf]; omega
                  · intro x cv wy cnt' hwx hlx cx hcx hcv hrg hlt' hgy hsy hen
                    subst hcv
                    have HCX := hide hcx; have HRG2 := hide hrg; have HGY := hide hgy
                    clear hwx hlx hcx hrg hgy hsy
                    go_wp2_with fail
                    exact ⟨⟨_, _, _, rfl, unhide HRG2, (unhide HTI).step (unhide HKE) (unhide HCX), (unhide HO).trans (Only.of_grown (unhide HGY) fun k e => by injection e with e; exact e.symm)⟩, by rw [(unhide HRG2).left_eq, (unhide HRG).left_eq]; exact hlt'⟩
        · have g1 : (kd == 1) = false := beq_eq_false_iff_ne.2 h1
          clear h1
          cases gn with
          | true =>
            go_wp2_with (go_at_call 17; with_reducible refine Calls.mono (gone_end (unhide HT5)) ?_; rintro _ w6 ⟨rfl, rfl⟩)
            exact ⟨⟨k + 1, e, true, by omega, by omega, by go_num, rfl, rfl, unhide HT5, unhide HK5, (unhide HST).next, unhide HB5⟩, by simp [intOf]; omega⟩
          | false =>
            have HT6 : Hid (TabAt w5 S p [e]) := HT5
            have hlen : e.shs.length ≤ 4096 := by have := (unhide HST).len; omega
            have hel : e.ended.length ≤ 4096 := by have := (unhide HST).el; omega
            cases hv : endedE e nd with
            | false =>
              have HC := hide (one_end_no (unhide HT6) (unhide HST).tx hlen hn0' hn1' hv)
              clear hv
              go_wp2_with (go_at_call 17; with_reducible refine Calls.mono (unhide HC) ?_; rintro _ w6 ⟨er, her, rfl, hb6⟩; have f1 : (er == 0) = false := beq_eq_false_iff_ne.2 her; have HB6 := hide hb6; clear hb6 her)
              exact ⟨⟨k + 1, e, false, by omega, by omega, by go_num, rfl, rfl, (unhide HT6).new (unhide HB6), (unhide HK5).only (S := fun _ => False) (Only.of_new (unhide HB6)) (fun h => h), (unhide HST).next, (unhide HB5).trans ((unhide HB6).mono hs5)⟩, by simp [intOf]; omega⟩
            | true =>
              have HC := hide (one_end_yes (unhide HT6) (unhide HST).tx hlen hel hn0' hn1' hv)
              have hdec := (endedE_yes hv).2.1
              generalize lastE e = L at HC
              clear hv
              cases L with
              | true =>
                go_wp2_with (first
                  | (go_at_call 17; with_reducible refine Calls.mono (unhide HC) ?_; rintro _ w6 ⟨rfl, ht6, ho6⟩
                     have HT7 := hide ht6
                     have HT7N : Hid (TabAt w6 S p []) := hide ht6
                     have HB7 := hide ((unhide HB5).trans (ho6.below hs5 (unhide HSG)))
                     have HK7 := hide ((unhide HK5).only ho6 hvm)
                     clear ht6 ho6)
                  | (go_at_call 15; with_reducible refine Calls.mono (len_none S p _ (unhide HT7N)) ?_; rintro _ w8 ⟨rfl, rfl⟩))
                exact ⟨⟨k + 1, endE e nd, true, by omega, by omega, by go_num, by rw [show (endE e nd).dec = e.dec from rfl, hdec], rfl, unhide HT7, unhide HK7, (unhide HST).end_ nd, unhide HB7⟩, by simp [intOf]; omega⟩
              | false =>
                go_wp2_with (first
                  | (go_at_call 17; with_reducible refine Calls.mono (unhide HC) ?_; rintro _ w6 ⟨rfl, ht6, ho6⟩
                     have HT7 := hide ht6
                     have HB7 := hide ((unhide HB5).trans (ho6.below hs5 (unhide HSG)))
                     have HK7 := hide ((unhide HK5).only ho6 hvm)
                     clear ht6 ho6))
                exact ⟨⟨k + 1, endE e nd, false, by omega, by omega, by go_num, by rw [show (endE e nd).dec = e.dec from rfl, hdec], rfl, unhide HT7, unhide HK7, (unhide HST).end_ nd, unhide HB7⟩, by simp [intOf]; omega⟩
      · have hkx : ¬ (k < r.length ∧ k < 80) := hgo
        clear ht hkq hst hb hrd
        cases gn with
        | true =>
          have HTN : Hid (TabAt wr S p []) := HT
          rcases Nat.lt_or_ge k r.length with hlt | hlt
          · obtain rfl : k = 80 := by omega
            rw [show ((80 : Nat) : Int) = 80 from rfl]
            go_wp2_with (first
              | (go_at_call 11; refine (unhide HA _).mono ?_; rintro _ w6 ⟨rfl, hb6⟩; have HT7 := hide ((unhide HTN).new hb6); have HB7 := hide ((unhide HB).trans (hb6.mono hsz)); clear hb6)
              | (go_at_call 15; with_reducible refine Calls.mono (len_none S p _ (unhide HT7)) ?_; rintro _ w8 ⟨rfl, rfl⟩))
            go_ret
            exact ⟨rfl, unhide HB7⟩
          · obtain rfl : k = r.length := by omega
            go_wp2_with (first
              | (go_at_call 11; refine (unhide HA _).mono ?_; rintro _ w6 ⟨rfl, hb6⟩; have HT7 := hide ((unhide HTN).new hb6); have HB7 := hide ((unhide HB).trans (hb6.mono hsz)); clear hb6)
              | (go_at_call 15; with_reducible refine Calls.mono (len_none S p _ (unhide HT7)) ?_; rintro _ w8 ⟨rfl, rfl⟩))
            go_ret
            exact ⟨rfl, unhide HB7⟩
        | false =>
          have HTN : Hid (TabAt wr S p [e]) := HT
          rcases Nat.lt_or_ge k r.length with hlt | hlt
          · obtain rfl : k = 80 := by omega
            rw [show ((80 : Nat) : Int) = 80 from rfl]
            go_wp2_with (first
              | (go_at_call 11; refine (unhide HA _).mono ?_; rintro _ w6 ⟨rfl, hb6⟩; have HT7 := hide ((unhide HTN).new hb6); have HB7 := hide ((unhide HB).trans (hb6.mono hsz)); clear hb6)
              | (go_at_call 15; with_reducible refine Calls.mono (len_one S p e _ (unhide HT7)) ?_; rintro _ w8 ⟨rfl, rfl⟩))
            go_ret
            exact ⟨rfl, unhide HB7⟩
          · obtain rfl : k = r.length := by omega
            go_wp2_with (first
              | (go_at_call 11; refine (unhide HA _).mono ?_; rintro _ w6 ⟨rfl, hb6⟩; have HT7 := hide ((unhide HTN).new hb6); have HB7 := hide ((unhide HB).trans (hb6.mono hsz)); clear hb6)
              | (go_at_call 15; with_reducible refine Calls.mono (len_one S p e _ (unhide HT7)) ?_; rintro _ w8 ⟨rfl, rfl⟩))
            go_ret
            exact ⟨rfl, unhide HB7⟩
  · have HNE := hide hne
    have HAP := hide hap
    have hn6 := fewQ_len l
    clear hne hap
    go_enter Try.func4, Try.ntmps4
    go_wp2_with (first
      | (go_at_call 8; refine (unhide HN).mono ?_; rintro _ w1 ⟨p, rfl, ht1, hb1⟩
         have HT1 := hide ht1; have HB1 := hide hb1; clear ht1 hb1)
      | (go_at_call 9; refine (few_any A c l _ (((unhide HI).below (unhide HB1)).more (unhide HB1).size)).mono ?_; rintro _ w2 ⟨A2, c2, rfl, ho2, hc2, hb2⟩
         have hat := few_at ((unhide HI).below (unhide HB1)) (hb2.mono (unhide HB1).size) (unhide HB1).size ho2
         have HT2 := hide ((unhide HT1).new hb2); have HAT := hide hat; have HC2 := hide hc2
         have HB2 := hide ((unhide HB1).trans (hb2.mono (unhide HB1).size)); have hs2 := (unhide HB1).size; clear hb2 ho2 hat hc2)
      | (go_at_call 10; with_reducible refine Calls.mono (start_any _ _ p [] 9 low A2 c2 (fewQ l) _ (unhide HT2) (by omega) (by omega) rfl (by simp) (unhide HNE) (by omega) (unhide HC2) (unhide HAT) (few_vs l)) ?_; rintro _ w3 (⟨_, rfl, hb3⟩ | ⟨hx, _⟩)
         rotate_left
         · exact absurd hx (unhide HAP)
         have HT3 := hide ((unhide HT2).new hb3); have HB3 := hide ((unhide HB2).trans (hb3.mono (unhide HB2).size)); have hs3 := (unhide HB2).size; clear hb3)
      | (go_at_call 11; refine (unhide HA _).mono ?_; rintro _ w6 ⟨rfl, hb6⟩; have HT7 := hide ((unhide HT3).new hb6); have HB7 := hide ((unhide HB3).trans (hb6.mono (unhide HB3).size)); clear hb6)
      | (go_at_call 15; with_reducible refine Calls.mono (len_none _ p _ (unhide HT7)) ?_; rintro _ w8 ⟨rfl, rfl⟩))
    go_ret
    exact ⟨rfl, unhide HB7⟩
end Go.Proofs.Ytcljendidhfobaa
