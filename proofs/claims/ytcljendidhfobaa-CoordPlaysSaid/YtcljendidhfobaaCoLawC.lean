/- What is handed in isn't kept, what is answered is new memory (CoordOwns). -/
import Derived.Test.YtcljendidhfobaaCoOwn
namespace Go.Proofs.Ytcljendidhfobaa
set_option linter.unusedVariables false
open Go.RowKit

theorem few_vs8 (l : List Sq) : ∀ s ∈ fewQ l, s.vs.length ≤ 8 := by
  intro s hs
  obtain ⟨x, _, rfl⟩ := List.mem_map.1 hs
  simp [fewOne]
  omega
theorem flatS_small : ∀ (l : List Sh), (∀ s ∈ l, s.2.length ≤ 8) → (flatS l).length ≤ l.length * 8
  | [], _ => by simp [flatS]
  | s :: r, h => by
    have := flatS_small r fun x hx => h x (List.mem_cons_of_mem _ hx)
    have := h s (List.mem_cons_self ..)
    unfold flatS at *
    rw [List.flatMap_cons, List.length_append, List.length_cons]
    omega
theorem vers_push {w w' : World} {base : Nat} {A A4 : Option Addr} {k c c4 : Nat} {lk : List Sq} {nd : Int} {vs : List Vr} (hr : w.ownsRow base 28 2 (.slice A k c) k (srow lk)) (hv : ∀ s ∈ lk, w.ownsRow base 33 6 (.slice s.A s.vs.length s.c) s.vs.length (vrow s.vs))
    (hn : w.ownsRow base 33 6 (.slice A4 vs.length c4) vs.length (vrow vs)) {cs : Array Value} {t : TypeId} (hg : (w.alloc (.cells cs t)).grownBy w' (Value.slice A k c).ownBlock) :
    ∀ s ∈ lk ++ [⟨nd, vs, A4, c4⟩], w'.ownsRow base 33 6 (.slice s.A s.vs.length s.c) s.vs.length (vrow s.vs) := by
  have o1 : Only (fun b => (Value.slice A k c).ownBlock = some b) w w' := (Only.of_new ((Below.refl _ w).alloc (Nat.le_refl _) _)).trans (Only.of_grown hg fun b hb => hb)
  have hvo : ∀ (s : Sq), w.ownsRow base 33 6 (.slice s.A s.vs.length s.c) s.vs.length (vrow s.vs) → w'.ownsRow base 33 6 (.slice s.A s.vs.length s.c) s.vs.length (vrow s.vs) := fun s hs =>
    own_only hs o1 fun b hb hS => by
      obtain ⟨cur, hbv⟩ := own_blk hs hb
      obtain ⟨cur2, hb2⟩ := own_blk hr hS
      exact absurd (blk_type hbv hb2) (by decide)
  intro s hs
  rcases List.mem_append.1 hs with hs | hs
  · exact hvo s (hv s hs)
  · simp at hs
    subst hs
    exact hvo ⟨nd, vs, A4, c4⟩ hn
theorem few_at2 {w w' : World} {B : Nat} {A A2 : Option Addr} {c c2 : Nat} {l : List Sq} (h : InShs w B A c l) (hb : Below B w w') (hB : B ≤ w.heap.size) (ho : w'.ownsRow w.heap.size 28 2 (.slice A2 (fewQ l).length c2) (fewQ l).length (srow (fewQ l))) : ShsAt w' (fun k => k < B ∨ (w.heap.size ≤ k ∧ k < w'.heap.size)) A2 (fewQ l) := by
  refine ⟨RdS.of_own ho fun k hk => .inr (ho.lt k hk), fun s hs => ?_⟩
  have h1 := (few_at h hb hB ho).vers s hs
  intro hn
  obtain ⟨ad, e1, _, hl, hc⟩ := h1 hn
  refine ⟨ad, e1, .inl ?_, hl, hc⟩
  obtain ⟨x, hx, rfl⟩ := List.mem_map.1 hs
  have hm := List.mem_of_mem_take hx
  have hxn : 0 < (vrow x.vs).length := by
    rw [vrow_len] at hn ⊢
    have : ((fewOne x).vs).length ≤ x.vs.length := by simp [fewOne]; omega
    omega
  obtain ⟨ad2, e2, hF, _⟩ := h.at_.vers x hm hxn
  have e1 : x.A = some ad := e1
  rw [e2] at e1
  injection e1 with e1
  subst e1
  exact hF
set_option maxHeartbeats 16000000 in
set_option maxRecDepth 20000 in
theorem coordOwns_any (A : Option Addr) (c : Nat) (l : List Sq) (w : World) (hi : InShs w w.heap.size A c l) :
    Calls Try.prog 3 #[.slice A l.length c] w fun e w' => e = .returned (.bool true) ∧ Below w.heap.size w w' := by
  obtain ⟨i0, hiv, hz0, hz1, hz2⟩ := info_parts verinfo
  obtain ⟨j0, hj, hy0, hy1, hy2⟩ := info_parts shinfo
  have HA := hide awake_any
  have HN := hide (new_tab w)
  have HI := hide hi
  clear hi
  have hn6 := fewQ_len l
  go_enter Try.func3, Try.ntmps3
  go_wp2_with (first
    | (go_at_call 8; refine (unhide HN).mono ?_; rintro _ w1 ⟨p, rfl, ht1, hb1⟩
       have HT1 := hide ht1; have HB1 := hide hb1; clear ht1 hb1)
    | (go_at_call 9; refine (few_any A c l _ (((unhide HI).below (unhide HB1)).more (unhide HB1).size)).mono ?_; rintro _ w2 ⟨A2, c2, rfl, ho2, hc2, hb2⟩
       have hat := few_at2 ((unhide HI).below (unhide HB1)) (hb2.mono (unhide HB1).size) (unhide HB1).size ho2
       have HT2 := hide ((unhide HT1).new hb2); have HAT := hide hat
       have HB2 := hide ((unhide HB1).trans (hb2.mono (unhide HB1).size)); have hs1 := (unhide HB1).size; have hs12 := hb2.size; clear hb2 ho2 hat hc2))
  have hvs := few_vs8 l
  obtain ⟨L, hL⟩ : ∃ L, fewQ l = L := ⟨_, rfl⟩
  rw [hL] at HAT hn6 hvs ⊢
  have HVS := hide hvs
  have hs2 := (unhide HB2).size
  clear hL hvs HI HN HT1 HB1
  obtain ⟨S, hS⟩ : ∃ S : Nat → Prop, (fun k => w.heap.size ≤ k ∧ k < w1.heap.size) = S := ⟨_, rfl⟩
  have HSW : Hid (∀ k, S k → w.heap.size ≤ k ∧ k < w2.heap.size) := hide (fun k hk => by rw [← hS] at hk; exact ⟨hk.1, Nat.lt_of_lt_of_le hk.2 hs12⟩)
  obtain ⟨F, hF⟩ : ∃ F : Nat → Prop, (fun k => k < w.heap.size ∨ (w1.heap.size ≤ k ∧ k < w2.heap.size)) = F := ⟨_, rfl⟩
  have HFS : Hid (∀ k, F k → ¬ S k ∧ k < w2.heap.size) := hide (fun k hk => by
    rw [← hF] at hk
    rw [← hS]
    show ¬ (w.heap.size ≤ k ∧ k < w1.heap.size) ∧ k < w2.heap.size
    rcases hk with hk | hk <;> omega)
  rw [hS] at HT2
  rw [hF] at HAT
  clear hS hF hs12 hs1
  clear w1
  go_loopw [5, 23] (fun mv iv wr => ∃ (k : Nat) (A3 : Option Addr) (c3 : Nat) (lk : List Sq), k ≤ L.length ∧ iv = .int .i64 k ∧ mv = .slice A3 k c3 ∧ k ≤ c3 ∧ lk.map Sq.sh = (L.take k).map Sq.sh ∧ wr.ownsRow w2.heap.size 28 2 (.slice A3 k c3) k (srow lk) ∧ (∀ s ∈ lk, wr.ownsRow w2.heap.size 33 6 (.slice s.A s.vs.length s.c) s.vs.length (vrow s.vs)) ∧ Below w2.heap.size w2 wr) (fun _ iv _ => L.length - (intOf iv).toNat)
  case atStart => exact ⟨0, none, 0, [], by omega, rfl, rfl, by omega, rfl, own_nil _ _ _ _, fun s hs => absurd hs (by simp), Below.refl _ _⟩
  case round =>
    obtain ⟨k, A3, c3, lk, hk, rfl, rfl, hkc, hsh, hown, hvers, hb⟩ := hrel
    have HB := hide hb; have HO := hide hown; have HV := hide hvers; have HSH := hide hsh
    have hsz := hb.size
    clear hb hown hvers hsh
    by_cases hlt : k < L.length
    · obtain ⟨s, hs⟩ : ∃ s, L[k]? = some s := ⟨L[k], List.getElem?_eq_getElem hlt⟩
      obtain ⟨ad, hA, _, hadl, c0, c1⟩ := ((unhide HAT).new (unhide HB)).at_ hs
      subst hA
      rw [← Addr.add_add] at c1
      have c1' : wr.cell? ⟨(ad.add (k * 2)).block, (ad.add (k * 2)).off + 1, none⟩ = some (.slice s.A s.vs.length s.c) := c1
      have HVR := hide (((unhide HAT).new (unhide HB)).vers s (List.mem_of_getElem? hs)).v
      have hv8 := unhide HVS s (List.mem_of_getElem? hs)
      obtain ⟨nd, vs, A4, c4⟩ := s
      simp only at c0 c1' HVR hv8
      have HX := hide hs
      clear hs c1
      have hb5 : Below wr.heap.size wr (wr.alloc (.cells #[.int .i64 nd, .slice A4 vs.length c4] 28)) := (Below.refl _ _).alloc (Nat.le_refl _) _
      have hq5 : Blk (wr.alloc (.cells #[.int .i64 nd, .slice A4 vs.length c4] 28)) wr.heap.size 28 #[.int .i64 nd, .slice A4 vs.length c4] := Blk.new _ _ _
      obtain ⟨w5, hw5⟩ : ∃ u, wr.alloc (.cells #[.int .i64 nd, .slice A4 vs.length c4] 28) = u := ⟨_, rfl⟩
      rw [hw5] at hb5 hq5
      have d0 : w5.cell? ⟨wr.heap.size, 0, none⟩ = some (.int .i64 nd) := hq5.cell 0
      have d1 : w5.cell? ⟨wr.heap.size, 1, none⟩ = some (.slice A4 vs.length c4) := hq5.cell 1
      have hs5 := hb5.size
      have hgl5 := hq5.lt
      have hb6 : Below wr.heap.size wr (w5.drew.alloc (.cells #[] 33)) := (hb5.trans (below_drewN' (Below.refl _ _) 1)).alloc (by simpa using hs5) _
      have HOn : Hid ((w5.drew.alloc (.cells #[] 33)).ownsRow w2.heap.size 33 6 (.slice (some ⟨w5.drew.heap.size, 0, none⟩) 0 0) 0 []) := hide (World.ownsRow_lit w5.drew #[] 0 (by simp; omega) (by simp [maxLen]) rfl)
      have HRn : Hid (RdV (w5.drew.alloc (.cells #[] 33)) wr.heap.size A4 (vrow vs)) := hide ((unhide HVR).below hb6)
      have HB6 := hide hb6
      have HQ5 := hide hq5
      clear hb5 hq5 hb6
      go_upto_region 9 with fail
      go_region_law (first
        | (refine step_append_any _ rfl (.tmp 30) (.tmp 32) _ rfl w2.heap.size 33 i0 _ 6 64 Try.underlying26 hiv hz0 hz1 hz2 rfl (by omega) _ 0 [] (by rfl) (unhide HOn) _ A4 vs.length c4 _ (by first | (with_reducible rfl) | go_simp) (unhide HRn) (vrow_len _) vrow_one (by simp only [maxLen]; omega) (by omega) (by simp; omega) ?_
           intro A5 c5 w6 hown6 hg6 hat6 hbel6 hcc6
           rw [Nat.zero_add, List.nil_append] at hown6; rw [Nat.zero_add] at hcc6 ⊢
           have hb7 : Below wr.heap.size wr w6 := (unhide HB6).trans ((Only.of_grown (S := fun k => w5.heap.size ≤ k) hg6 (fun k e => by injection e with e; rw [← e]; exact Nat.le_refl _)).below (by simp; omega) (fun k hk => Nat.le_trans hs5 hk))
           have HO6 := hide hown6; have HB7 := hide hb7
           have d06 : w6.cell? ⟨wr.heap.size, 0, none⟩ = some (.int .i64 nd) := by
             have h5 : Below (wr.heap.size + 1) w5 w6 := by
               have hl : wr.heap.size + 1 ≤ w5.heap.size := hgl5
               exact ((below_drewN' (Below.refl _ _) 1).alloc (by simpa using hl) _).trans ((Only.of_grown (S := fun k => w5.heap.size ≤ k) hg6 (fun k e => by injection e with e; rw [← e]; exact Nat.le_refl _)).below (by simp; omega) (fun k hk => Nat.le_trans hl hk))
             exact (h5.cell (p := ⟨wr.heap.size, 0, none⟩) (Nat.lt_succ_self _)).trans d0
           have hgl6 : wr.heap.size < w6.heap.size := Nat.lt_of_lt_of_le hgl5 (Nat.le_trans (by simp) hbel6.size)
           have HS6 : Hid ((w6.alloc (.cells #[.int .i64 nd, .slice A5 vs.length c5] 28)).ownsRow w2.heap.size 28 2 (.slice A3 k c3) k (srow lk)) := hide ((own_below (unhide HO) hb7 (fun g hg => ((unhide HO).lt g hg).2)).alloc _)
           clear hown6 hg6 hat6 hbel6 hb7)
        | (refine step_append_any _ rfl (.tmp 27) (.tmp 35) _ rfl w2.heap.size 28 j0 _ 2 32 Try.underlying22 hj hy0 hy1 hy2 rfl (by omega) _ k _ (by rfl) (unhide HS6) _ _ 1 1 _ (by rfl) (RdV.of_own (base := 0) (size := 2) (World.ownsRow_lit w6 #[.int .i64 nd, .slice A5 vs.length c5] 1 (Nat.zero_le _) (by simp [maxLen]) rfl)) rfl (by intro u hu; simp at hu; rcases hu with rfl | rfl <;> rfl) (by simp only [maxLen]; omega) (by omega) (by simp; omega) ?_
           intro A7 c7 w7 hown7 hg7 hat7 hbel7 hcc7
           have hrow6 := own_below (unhide HO) (unhide HB7) (fun g hg => ((unhide HO).lt g hg).2)
           have hver6 : ∀ s ∈ lk, w6.ownsRow w2.heap.size 33 6 (.slice s.A s.vs.length s.c) s.vs.length (vrow s.vs) := fun s hs => own_below (unhide HV s hs) (unhide HB7) (fun g hg => ((unhide HV s hs).lt g hg).2)
           have HVP := hide (vers_push (nd := nd) hrow6 hver6 (unhide HO6) hg7)
           have HO7 := hide hown7
           have HB8 := hide (((unhide HB).trans ((unhide HB7).mono hsz)).trans ((((Below.refl _ w6).alloc (by omega) _)).trans hbel7))
           have hcc8 := hide hcc7
           clear hown7 hg7 hat7 hbel7 hcc7 hrow6 hver6))
      all_goals go_wp2_with fail
      all_goals
        refine ⟨⟨k + 1, A7, c7, lk ++ [⟨nd, vs, A5, c5⟩], by omega, by go_num, rfl, unhide hcc8, take_map_succ (unhide HSH) (unhide HX) rfl, ?_, unhide HVP, unhide HB8⟩, by simp [intOf]; omega⟩
        rw [srow_app]
        exact unhide HO7
    · obtain rfl : k = L.length := by omega
      obtain ⟨w3, hw3⟩ : ∃ u, u = wr := ⟨_, rfl⟩
      subst hw3
      have hsh : lk.map Sq.sh = L.map Sq.sh := by rw [unhide HSH, List.take_length]
      have hll : lk.length = L.length := by have := congrArg List.length hsh; simpa using this
      have hlv : ∀ s ∈ lk, s.vs.length ≤ 8 := fun s hs => by
        have : s.sh ∈ L.map Sq.sh := by rw [← hsh]; exact List.mem_map.2 ⟨s, hs, rfl⟩
        obtain ⟨s2, h2, e2⟩ := List.mem_map.1 this
        have e3 : s2.vs = s.vs := congrArg Prod.snd e2
        rw [← e3]
        exact unhide HVS s2 h2
      have hat3 : ShsAt w3 (fun k => k < w3.heap.size) A3 lk := ⟨RdS.of_own (unhide HO) fun k hk => ((unhide HO).lt k hk).2, fun s hs => RdS.of_own (unhide HV s hs) fun k hk => ((unhide HV s hs).lt k hk).2⟩
      have hcs := start_one S _ p A3 c3 lk w3 ((unhide HT2).new (unhide HB)) (by omega) (by omega) hat3 (fun s hs => by have := hlv s hs; omega)
      rw [hll] at hcs
      have HCS := hide hcs
      have hmine := Mine.of_own (unhide HO) (unhide HV)
      obtain ⟨G, hG⟩ : ∃ G : Nat → Prop, (fun k => w2.heap.size ≤ k ∧ k < w3.heap.size) = G := ⟨_, rfl⟩
      rw [hG] at hmine
      have hGd : ∀ k, G k ↔ w2.heap.size ≤ k ∧ k < w3.heap.size := fun k => by rw [← hG]
      have HGD := hide hGd
      have HMI := hide hmine
      have HLL := hide hll; have HSH2 := hide hsh; have HLV := hide hlv
      have HB3 := hide ((unhide HB2).trans ((unhide HB).mono hs2))
      have HB23 := hide (unhide HB)
      clear hmine hcs hat3 hG hGd hll hsh hlv HO HV HSH HB
      go_wp2_with (first
        | (go_at_call 10; refine (unhide HCS).mono ?_; rintro _ w4 ⟨er, T, S', rfl, ht4, ho4, hS', hcase⟩
           have HT4 := hide ht4; have HCA := hide hcase
           have hs24 : w2.heap.size ≤ w4.heap.size := Nat.le_trans (unhide HB23).size ho4.size
           have HM4 := hide ((unhide HMI).only ho4 (fun k hk hs => by have h1 := (unhide HGD k).1 hk; have h2 := unhide HSW k hs; omega))
           have HAT4 := hide (((unhide HAT).new (unhide HB23)).only ho4 (fun k hk => (unhide HFS k hk).1))
           have HB4 := hide ((unhide HB3).trans (ho4.below (unhide HB3).size (fun k hk => (unhide HSW k hk).1)))
           have HSD := hide (fun k (hk : S' k) (hg : G k) => (by
             have h1 := (unhide HGD k).1 hg
             rcases hS' k hk with h2 | h2
             · have := unhide HSW k h2; omega
             · omega : False))
           have HSW2 := hide (fun k (hk : S' k) => (by
             rcases hS' k hk with h2 | h2
             · exact (unhide HSW k h2).1
             · exact Nat.le_trans (unhide HB3).size h2 : w.heap.size ≤ k))
           clear ht4 ho4 hS' hcase))
      go_loopw [43] (fun iv wr => ∃ k : Nat, k ≤ L.length ∧ iv = .int .i64 k ∧ Mine wr G A3 lk ∧ Only G w4 wr) (fun iv _ => L.length - (intOf iv).toNat)
      case atStart => exact ⟨0, by omega, rfl, unhide HM4, Only.refl _ _⟩
      case round =>
        obtain ⟨k, hk, rfl, hm, ho⟩ := hrel
        have HM := hide hm; have HO := hide ho
        clear hm ho
        by_cases hlt : k < L.length
        · obtain ⟨s, hs⟩ : ∃ s, lk[k]? = some s := ⟨lk[k]'(by rw [unhide HLL]; exact hlt), List.getElem?_eq_getElem _⟩
          obtain ⟨g, cs, hA, hGg, hbk, hc⟩ := (unhide HM).row k s hs
          subst hA
          obtain ⟨⟨nd, h1⟩, h2⟩ := hc k s hs
          have c0 : wr.cell? ⟨g, k * 2, none⟩ = some (.int .i64 nd) := (hbk.cell _).trans h1
          have c1 : wr.cell? ⟨g, k * 2 + 1, none⟩ = some (.slice s.A s.vs.length s.c) := (hbk.cell _).trans h2
          have hgl := hbk.lt
          have HX := hide hs
          have HGG := hide hGg
          obtain ⟨n0, vs, A4, c4⟩ := s
          simp only at c1
          clear hs hbk hc h1 h2 hGg
          go_wp2_with fail
          clear c0 c1 hgl
          go_loopw [52] (fun jv wq => ∃ m : Nat, m ≤ vs.length ∧ jv = .int .i64 m ∧ Mine wq G (some ⟨g, 0, none⟩) lk ∧ Only G w4 wq) (fun jv _ => vs.length - (intOf jv).toNat)
          case atStart => exact ⟨0, by omega, rfl, unhide HM, unhide HO⟩
          case round =>
            obtain ⟨m, hm, rfl, hmi, ho⟩ := hrel
            have HM2 := hide hmi; have HO2 := hide ho
            obtain ⟨g2, cs, hA, hGg, hbk, hc⟩ := hmi.row k _ (unhide HX)
            injection hA with hA
            injection hA with hA _
            subst hA
            obtain ⟨⟨nd', h1⟩, h2⟩ := hc k _ (unhide HX)
            have c0 : wr.cell? ⟨g, k * 2, none⟩ = some (.int .i64 nd') := (hbk.cell _).trans h1
            have c1 : wr.cell? ⟨g, k * 2 + 1, none⟩ = some (.slice A4 vs.length c4) := (hbk.cell _).trans h2
            have hgl := hbk.lt
            have fz := hbk.frozen (k * 2)
            have HBK := hide hbk
            by_cases hmk : m < vs.length
            · obtain ⟨q, hA4, hGq, hgn⟩ := hmi.ver _ (List.mem_of_getElem? (unhide HX)) (by simp only; omega)
              obtain ⟨b, cb, fzb, hql⟩ := hgn.cell (k := m) hmk
              obtain ⟨csq, hbq, _⟩ := hgn
              have hA4' : A4 = some ⟨q, 0, none⟩ := hA4
              have hv8 := unhide HLV _ (List.mem_of_getElem? (unhide HX))
              simp only at hv8
              have HS2 := hide (((unhide HM2).gone (q := q) (cs' := csq) hbq m (!b)).only (S := fun _ => False) (Only.refl _ (wr.setCell ⟨q, m * 6 + 2, none⟩ (.bool (!b)))).drew (fun _ _ h => h))
              have HO3 := hide (Only.setCell (S := G) (p := ⟨q, m * 6 + 2, none⟩) ho hGq (.bool (!b))).drew
              subst hA4'
              clear hmi ho hbk hc h1 h2 hA4 hGq hbq hGg
              go_upto_region 18 with fail
              go_region_law fail
              all_goals go_wp2_with fail
              all_goals exact ⟨⟨m + 1, by omega, by go_num, unhide HS2, unhide HO3⟩, by simp [intOf]; omega⟩
            · obtain rfl : m = vs.length := by omega
              clear hmi ho hbk hc h1 h2 hGg
              go_wp2_with fail
              exact ⟨⟨k + 1, by omega, by go_num, (unhide HM2).node (unhide HBK) k _, Only.setCell (S := G) (p := ⟨g, k * 2, none⟩) (unhide HO2) (unhide HGG) _⟩, by simp [intOf]; omega⟩
        · obtain rfl : k = L.length := by omega
          obtain ⟨w6, hw6⟩ : ∃ u, u = wr := ⟨_, rfl⟩
          subst hw6
          have HT6 := hide ((unhide HT4).only (unhide HO) (unhide HSD))
          have HB6 := hide ((unhide HB4).trans ((unhide HO).below (unhide HB4).size (fun k hk => Nat.le_trans hs2 ((unhide HGD k).1 hk).1)))
          have HAT6 := hide ((unhide HAT4).only (unhide HO) (fun k hk hg => by have h1 := (unhide HFS k hk).2; have h2 := ((unhide HGD k).1 hg).1; omega))
          have hs6 := (unhide HB6).size
          have hs26 : w2.heap.size ≤ w6.heap.size := Nat.le_trans hs24 (unhide HO).size
          clear HM HO
          rcases unhide HCA with ⟨her, hT⟩ | ⟨her, hT⟩
          · subst hT
            have f1 : (er == 0) = false := beq_eq_false_iff_ne.2 her
            clear her
            go_wp2_with (first
              | (go_at_call 11; refine (unhide HA _).mono ?_; rintro _ w7 ⟨rfl, hb7⟩; have HT7 := hide ((unhide HT6).new hb7); have HB7 := hide ((unhide HB6).trans (hb7.mono hs6)); clear hb7)
              | (go_at_call 12; with_reducible refine Calls.mono (writes_none _ p [] 1 _ (unhide HT7) (by omega) (by omega) rfl) ?_; rintro _ w8 ⟨rfl, rfl⟩))
            go_ret
            exact ⟨rfl, unhide HB7⟩
          · subst hT her
            have hsh := unhide HSH2
            rw [hsh] at HT6
            obtain ⟨V, hV⟩ : ∃ V, flatS (L.map Sq.sh) = V := ⟨_, rfl⟩
            have hVn : V.length ≤ 1000000 := by
              have := flatS_small (L.map Sq.sh) (fun s hs => by
                obtain ⟨x, hx, rfl⟩ := List.mem_map.1 hs
                exact unhide HVS x hx)
              rw [List.length_map, hV] at this
              omega
            have hwr : ∀ (u : World), TabAt u S' p [⟨1, 0, L.map Sq.sh, [], []⟩] → Calls Try.prog 12 #[.pointer (some ⟨p, 0, none⟩), .int .u64 1] u fun e w' => ∃ A c, e = .returned (.slice A V.length c) ∧ w'.ownsRow u.heap.size 33 6 (.slice A V.length c) V.length (vrow V) ∧ Below u.heap.size u w' := fun u hu => by
              have := writes_any S' p [⟨1, 0, L.map Sq.sh, [], []⟩] 1 _ u hu (by omega) (by omega) rfl (by simp; omega) (by show (flatS (L.map Sq.sh)).length ≤ _; rw [hV]; exact hVn)
              rw [show (⟨1, 0, L.map Sq.sh, [], []⟩ : Et).shs = L.map Sq.sh from rfl, hV] at this
              exact this
            have hnd : ∀ (u : World), TabAt u S' p [⟨1, 0, L.map Sq.sh, [], []⟩] → Calls Try.prog 14 #[.pointer (some ⟨p, 0, none⟩), .int .u64 1] u fun e w' => ∃ A c, e = .returned (.slice A L.length c) ∧ Below u.heap.size u w' := fun u hu => by
              have := nodes_any S' p [⟨1, 0, L.map Sq.sh, [], []⟩] 1 _ u hu (by omega) (by omega) rfl (by simp; omega)
              rw [show (⟨1, 0, L.map Sq.sh, [], []⟩ : Et).shs = L.map Sq.sh from rfl, List.length_map] at this
              refine Calls.mono this ?_
              rintro e w' ⟨A, c, rfl, _, hb⟩
              exact ⟨A, c, rfl, hb⟩
            have HWR := hide hwr
            have HND := hide hnd
            have HVV := hide hV
            have hSl : ∀ k, S' k → k < w6.heap.size := (unhide HT6).lt
            have HSL := hide hSl
            clear hsh hwr hnd hV hSl
            go_wp2_with (first
              | (go_at_call 12; refine (unhide HWR _ (unhide HT6)).mono ?_; rintro _ w7 ⟨A8, c8, rfl, ho7, hb7⟩
                 have HT7 := hide ((unhide HT6).new hb7); have HB7 := hide hb7; have HAT7 := hide ((unhide HAT6).new hb7); have HO7 := hide ho7
                 have HG7 : Hid (∀ q, A8 = some ⟨q, 0, none⟩ → w6.heap.size ≤ q ∧ Gn w7 q V.length) := hide (fun q e => by
                   subst e
                   exact ⟨(ho7.lt q rfl).1, Gn.of_own ho7⟩)
                 clear hb7 ho7))
            go_loopw [96] (fun iv wr => ∃ k : Nat, k ≤ V.length ∧ iv = .int .i64 k ∧ (∀ q, A8 = some ⟨q, 0, none⟩ → w6.heap.size ≤ q ∧ Gn wr q V.length) ∧ Only (fun b => w6.heap.size ≤ b) w7 wr) (fun iv _ => V.length - (intOf iv).toNat)
            case atStart => exact ⟨0, by omega, rfl, unhide HG7, Only.refl _ _⟩
            case round =>
              obtain ⟨k, hk, rfl, hgn, ho⟩ := hrel
              have HGN := hide hgn; have HO := hide ho
              clear hgn ho
              by_cases hlt : k < V.length
              · obtain ⟨q, cap, hv, _, _⟩ := (unhide HO7).form (by omega)
                have hA8 : A8 = some ⟨q, 0, none⟩ := by injection hv
                obtain ⟨hq6, hgq⟩ := unhide HGN q hA8
                obtain ⟨b, cb, fzb, hql⟩ := hgq.cell (k := k) hlt
                have hgq2 := hgq
                obtain ⟨csq, hbq, _⟩ := hgq2
                have HG9 : Hid (∀ q2, A8 = some ⟨q2, 0, none⟩ → w6.heap.size ≤ q2 ∧ Gn (wr.setCell ⟨q, k * 6 + 2, none⟩ (.bool (!b))) q2 V.length) := hide (fun q2 e => ⟨(unhide HGN q2 e).1, (unhide HGN q2 e).2.set hbq (!b)⟩)
                have HO9 := hide (Only.setCell (S := fun b => w6.heap.size ≤ b) (p := ⟨q, k * 6 + 2, none⟩) (unhide HO) hq6 (.bool (!b)))
                subst hA8
                clear hv hgq hbq
                go_wp2_with fail
                exact ⟨⟨k + 1, by omega, by go_num, unhide HG9, unhide HO9⟩, by simp [intOf]; omega⟩
              · obtain rfl : k = V.length := by omega
                obtain ⟨w8, hw8⟩ : ∃ u, u = wr := ⟨_, rfl⟩
                subst hw8
                have HT8 := hide ((unhide HT7).only (unhide HO) (fun k hk h => Nat.lt_irrefl _ (Nat.lt_of_lt_of_le (unhide HSL k hk) h)))
                have HAT8 := hide ((unhide HAT7).only (unhide HO) (fun k hk h => by have h1 := (unhide HFS k hk).2; have h2 : w6.heap.size ≤ k := h; omega))
                have HB8 := hide (((unhide HB6).trans ((unhide HB7).mono hs6)).trans ((unhide HO).below (Nat.le_trans hs6 (unhide HB7).size) (fun k hk => Nat.le_trans hs6 hk)))
                have hs8 := (unhide HB8).size
                clear HGN HO
                go_wp2_with fail
                go_loopw [13, 112] (fun ov iv wr => ∃ (k : Nat) (A9 : Option Addr) (c9 : Nat), k ≤ L.length ∧ iv = .int .i64 k ∧ ov = .slice A9 (flatS ((L.map Sq.sh).take k)).length c9 ∧ wr.ownsRow w8.heap.size 33 6 (.slice A9 (flatS ((L.map Sq.sh).take k)).length c9) (flatS ((L.map Sq.sh).take k)).length (vrow (flatS ((L.map Sq.sh).take k))) ∧ Below w8.heap.size w8 wr) (fun _ iv _ => L.length - (intOf iv).toNat)
                case atStart => exact ⟨0, none, 0, by omega, rfl, rfl, own_nil _ _ _ _, Below.refl _ _⟩
                case round =>
                  obtain ⟨k, A9, c9, hk, rfl, rfl, hown, hb⟩ := hrel
                  have HB := hide hb
                  have HO := hide hown
                  have hsz := hb.size
                  have hle := flatS_le (L.map Sq.sh) k
                  have hle2 := flatS_le (L.map Sq.sh) (k + 1)
                  rw [unhide HVV] at hle hle2
                  clear hb hown
                  by_cases hlt : k < L.length
                  · obtain ⟨s, hs⟩ : ∃ s, L[k]? = some s := ⟨L[k], List.getElem?_eq_getElem hlt⟩
                    have hsh : (L.map Sq.sh)[k]? = some (s.node, s.vs) := by rw [List.getElem?_map, hs]; rfl
                    have hsucc := flatS_succ hsh
                    obtain ⟨ad, hA, _, hadl, c0, c1⟩ := ((unhide HAT8).new (unhide HB)).at_ hs
                    subst hA
                    rw [← Addr.add_add] at c1
                    have c1' : wr.cell? ⟨(ad.add (k * 2)).block, (ad.add (k * 2)).off + 1, none⟩ = some (.slice s.A s.vs.length s.c) := c1
                    have HV := hide (((unhide HAT8).new (unhide HB)).vers s (List.mem_of_getElem? hs)).v
                    have hln : (flatS ((L.map Sq.sh).take (k + 1))).length = (flatS ((L.map Sq.sh).take k)).length + s.vs.length := by rw [hsucc, List.length_append]
                    have HSU := hide hsucc; have HLN := hide hln
                    obtain ⟨nd, vs, A3', c3'⟩ := s
                    simp only at c0 c1' HV HSU hln HLN
                    rw [hln] at hle2
                    clear hs hsh hsucc hln c1
                    go_wp2_with (first
                      | (at_builtin
                         refine wpList_append_any _ rfl (.tmp 116) (.tmp 118) _ rfl w8.heap.size 33 i0 _ 6 64 Try.underlying26 hiv hz0 hz1 hz2 rfl (by omega) _ (flatS ((L.map Sq.sh).take k)).length _ rfl ((unhide HO).alloc _) _ A3' vs.length c3' _ rfl ((unhide HV).below ((Below.refl _ _).alloc (Nat.le_refl _) _)) (vrow_len _) vrow_one (by simp only [maxLen]; omega) (by omega) (by simp; omega) ?_
                         intro A10 c10 w10 hown10 hg10 hat10 hbel10 hcc10
                         have HO10 := hide hown10
                         have HB10 := hide (((unhide HB).alloc hsz _).trans hbel10)
                         clear hown10 hg10 hat10 hbel10 hcc10))
                    refine ⟨⟨k + 1, A10, c10, by omega, by go_num, by rw [unhide HLN], ?_, unhide HB10⟩, by simp [intOf]; omega⟩
                    rw [unhide HLN, unhide HSU, vrow_app]
                    exact unhide HO10
                  · obtain rfl : k = L.length := by omega
                    have ht : flatS ((L.map Sq.sh).take L.length) = V := by rw [← unhide HVV, List.take_of_length_le (by simp)]
                    rw [ht] at HO ⊢
                    obtain ⟨w9, hw9⟩ : ∃ u, u = wr := ⟨_, rfl⟩
                    subst hw9
                    have HT9 := hide ((unhide HT8).new (unhide HB))
                    have HB9 := hide ((unhide HB8).trans ((unhide HB).mono hs8))
                    have HR9 := hide (RdV.of_own (unhide HO))
                    have hs9 := (unhide HB9).size
                    clear ht hle hle2
                    go_wp2_with (first
                      | (go_at_call 11; refine (unhide HA _).mono ?_; rintro _ w10 ⟨rfl, hb10⟩; have HT10 := hide ((unhide HT9).new hb10); have HR10 := hide ((unhide HR9).below hb10); have HBW10 := hide hb10; have HB10 := hide ((unhide HB9).trans (hb10.mono hs9)); clear hb10)
                      | (go_at_call 12; refine (unhide HWR _ (unhide HT10)).mono ?_; rintro _ w11 ⟨A11, c11, rfl, ho11, hb11⟩
                         have HT11 := hide ((unhide HT10).new hb11); have HR11 := hide ((unhide HR10).below (hb11.mono (unhide HBW10).size)); have HRA := hide (RdV.of_own ho11)
                         have hs11 : w9.heap.size ≤ w11.heap.size := Nat.le_trans (unhide HBW10).size hb11.size
                         have HB11 := hide ((unhide HB10).trans (hb11.mono (unhide HB10).size)); clear hb11 ho11)
                      | (go_at_call 13; with_reducible refine Calls.mono (same_vers V A11 A9 c11 c9 _ _ _ (unhide HRA) (unhide HR11) (Nat.le_refl _) hs11 (by omega)) ?_; rintro _ w12 ⟨rfl, hb12⟩
                         have HT12 := hide ((unhide HT11).new hb12); have HB12 := hide ((unhide HB11).trans (hb12.mono (unhide HB11).size)); clear hb12)
                      | (go_at_call 14; refine (unhide HND _ (unhide HT12)).mono ?_; rintro _ w13 ⟨A13, c13, rfl, hb13⟩
                         have HB13 := hide ((unhide HB12).trans (hb13.mono (unhide HB12).size)); clear hb13))
                    go_ret
                    exact ⟨rfl, unhide HB13⟩
end Go.Proofs.Ytcljendidhfobaa
