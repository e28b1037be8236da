/- The document's Start, walked. -/
import Derived.Test.YtcljendidhfobaaCoDStart
namespace Go.Proofs.Ytcljendidhfobaa
set_option linter.unusedVariables false
open Go.RowKit

section
variable {w w' : World} {F : Nat → Prop} {A : Option Addr} {l : List Sq}
/-- shares that read (the row of whatever type) -/
theorem ShsAt.cells (h : ShsAt w F A l) {i : Nat} {s : Sq} (hi : l[i]? = some s) : ∃ ad, A = some ad ∧ ad.block < w.heap.size ∧ w.cell? (ad.add (i * 2)) = some (.int .i64 s.node) ∧ w.cell? ⟨(ad.add (i * 2)).block, (ad.add (i * 2)).off + 1, none⟩ = some (.slice s.A s.vs.length s.c) := by
  obtain ⟨ad, hA, _, hl, c0, c1⟩ := h.at_ hi
  rw [← Addr.add_add] at c1
  exact ⟨ad, hA, hl, c0, c1⟩
end
def DStarted (S : Nat → Prop) (q : Nat) (D : List Dt) (tx low : Int) (l : List Sq) (w w' : World) : Prop :=
  ∃ (oA' : Option Addr) (oc' : Nat) (S' : Nat → Prop) (d : Dt), DocAt w' S' q oA' oc' (D ++ [d]) ∧ d.tx = tx ∧ d.low = low ∧ d.shs = l.map Sq.sh ∧ d.vts = [] ∧ Only S w w' ∧ ∀ k, S' k → S k ∨ w.heap.size ≤ k
set_option maxHeartbeats 16000000 in
set_option maxRecDepth 20000 in
theorem dstart_any (S F : Nat → Prop) (q : Nat) (oA : Option Addr) (oc : Nat) (D : List Dt) (tx low : Int) (A : Option Addr) (c : Nat) (l : List Sq) (w : World) (h : DocAt w S q oA oc D) (hn : noD D tx) (hD : D.length ≤ 4000)
    (hl : l ≠ []) (hl2 : l.length ≤ 4096) (hs : ShsAt w F A l) (hv : ∀ s ∈ l, s.vs.length ≤ 4096) :
    Calls Try.prog 22 #[.pointer (some ⟨q, 0, none⟩), .int .u64 tx, .int .u64 low, .slice A l.length c] w fun e w' =>
      (¬ Apart (l.map Sq.sh) ∧ e = .returned (.int .i64 3) ∧ Below w.heap.size w w') ∨ (Apart (l.map Sq.sh) ∧ e = .returned (.int .i64 0) ∧ DStarted S q D tx low l w w') := by
  obtain ⟨i0, hi, hz0, hz1, hz2⟩ := info_parts verinfo
  obtain ⟨j0, hj, hy0, hy1, hy2⟩ := info_parts rshinfo
  obtain ⟨k0, hk0, hx0, hx1, hx2⟩ := info_parts entinfo2
  have HF := hide (rfind_no S q oA oc D tx w h hn (by omega))
  have hpos : 0 < l.length := List.length_pos_iff.2 hl
  have g1 : ((l.length : Int) == 0) = false := beq_eq_false_iff_ne.2 (by omega)
  have g2 : ¬ (l.length : Int) = 0 := by omega
  obtain ⟨ad, hA, _, hadl, _⟩ := hs.row (by rw [srow_len]; omega)
  subst hA
  have HH := hide h
  have HS := hide hs
  have HV := hide hv
  clear h hn hs hv hl
  go_enter Try.func22, Try.ntmps22
  go_wp2_with (go_at_call 33; refine (unhide HF).mono ?_; rintro _ w2 ⟨rfl, rfl⟩)
  have hbE : Below w.heap.size w (w.alloc (.cells #[.int .u64 tx, .int .u64 low, .slice none 0 0, .slice none 0 0] 82)) := (Below.refl _ _).alloc (Nat.le_refl _) _
  have hqE : Blk (w.alloc (.cells #[.int .u64 tx, .int .u64 low, .slice none 0 0, .slice none 0 0] 82)) w.heap.size 82 #[.int .u64 tx, .int .u64 low, .slice none 0 0, .slice none 0 0] := Blk.new _ _ _
  obtain ⟨wE, hwE⟩ : ∃ u, w.alloc (.cells #[.int .u64 tx, .int .u64 low, .slice none 0 0, .slice none 0 0] 82) = u := ⟨_, rfl⟩
  rw [hwE] at hbE hqE ⊢
  have HBE := hide hbE; have HQE := hide hqE
  clear hbE hqE hwE
  go_loopw [10] (fun iv wr => ∃ (k : Nat) (A2 : Option Addr) (c2 : Nat) (lk : List Sq), k ≤ l.length ∧ iv = .int .i64 k ∧ lk.length = k ∧ lk.map Sq.sh = (l.take k).map Sq.sh ∧ DMaking wr w.heap.size w.heap.size tx low A2 k c2 lk ∧ Below w.heap.size w wr ∧
      ∀ (i j : Nat) (a b : Sq), i < j → j < k → l[i]? = some a → l[j]? = some b → a.node ≠ b.node) (fun iv _ => l.length - (intOf iv).toNat)
  case atStart => exact ⟨0, none, 0, [], by omega, rfl, rfl, rfl, ⟨unhide HQE, own_nil _ _ _ _, fun s hs => absurd hs (by simp)⟩, unhide HBE, fun i j a b _ hj => by omega⟩
  case round =>
    obtain ⟨k, A2, c2, lk, hk, rfl, hlk, hsh, hmk, hb, hno⟩ := hrel
    have HB := hide hb; have HM := hide hmk; have HNO := hide hno; have HSH := hide hsh; have HLK := hide hlk
    have hsz := hb.size
    clear hb hmk hno hsh hlk
    by_cases hlt : k < l.length
    · obtain ⟨s, hs⟩ : ∃ s, l[k]? = some s := ⟨l[k], List.getElem?_eq_getElem hlt⟩
      obtain ⟨ad', hA', hadl', c0, c1⟩ := ((unhide HS).new (unhide HB)).cells hs
      injection hA' with hA'
      subst hA'
      have HVR := hide (((unhide HS).new (unhide HB)).vers s (List.mem_of_getElem? hs))
      have hvl := (unhide HV) s (List.mem_of_getElem? hs)
      obtain ⟨nd, vs, A3, c3⟩ := s
      simp only at c0 c1 HVR hvl
      have HX := hide hs
      clear hs
      obtain ⟨wo, hwo⟩ : ∃ u, u = wr := ⟨_, rfl⟩
      subst hwo
      go_wp2_with fail
      go_loopw [11] (fun jx wq => ∃ m : Nat, m ≤ k ∧ jx = .int .i64 m ∧ Below wo.heap.size wo wq ∧ ∀ (i : Nat) (a : Sq), i < m → l[i]? = some a → a.node ≠ nd) (fun jx _ => k - (intOf jx).toNat)
      case atStart => exact ⟨0, by omega, rfl, Below.refl _ _, fun i a hi => by omega⟩
      case round =>
        obtain ⟨m, hm, rfl, hb, hne⟩ := hrel
        have HB6 := hide hb
        have HNE := hide hne
        have hs6 := hb.size
        have d0 : wr.cell? (ad.add (k * 2)) = some (.int .i64 nd) := (hb.cell (p := ad.add (k * 2)) (by rw [block_of_add]; exact hadl')).trans c0
        have d1 : wr.cell? ⟨(ad.add (k * 2)).block, (ad.add (k * 2)).off + 1, none⟩ = some (.slice A3 vs.length c3) := (hb.cell (p := ⟨(ad.add (k * 2)).block, (ad.add (k * 2)).off + 1, none⟩) (by show (ad.add (k * 2)).block < _; rw [block_of_add]; exact hadl')).trans c1
        clear hb hne
        by_cases hmk : m < k
        · obtain ⟨z, hz⟩ : ∃ z, l[m]? = some z := ⟨l[m], List.getElem?_eq_getElem (by omega)⟩
          obtain ⟨ad', hA', _, e0, e1⟩ := (((unhide HS).new (unhide HB)).new (unhide HB6)).cells hz
          injection hA' with hA'
          subst hA'
          obtain ⟨zn, zvs, zA, zc⟩ := z
          simp only at e0 e1
          have HZ := hide hz
          have hml : m < l.length := by omega
          clear hz
          go_upto_region 12 with fail
          by_cases hq : nd = zn
          · have f1 : (nd == zn) = true := beq_iff_eq.2 hq
            have HQ := hide hq
            clear hq
            go_region_law fail
            all_goals go_wp2_with fail
            all_goals
              go_ret
              refine .inl ⟨fun ha => ?_, rfl, ?_⟩
              · exact ha m k (zn, zvs) (nd, vs) hmk (by rw [List.getElem?_map, unhide HZ]; rfl) (by rw [List.getElem?_map, unhide HX]; rfl) (unhide HQ).symm
              · exact (unhide HB).trans (((unhide HB6).trans (below_drewN' (Below.refl _ _) 1)).mono hsz)
          · have f1 : (nd == zn) = false := beq_eq_false_iff_ne.2 hq
            have HQ := hide hq
            clear hq
            go_region_law fail
            all_goals go_wp2_with fail
            all_goals
              refine ⟨⟨m + 1, by omega, by go_num, (unhide HB6).trans (below_drewN' (Below.refl _ _) 1), fun i a hi ha => ?_⟩, by simp [intOf]; omega⟩
              rcases Nat.lt_or_ge i m with h1 | h1
              · exact unhide HNE i a h1 ha
              · obtain rfl : i = m := by omega
                rw [unhide HZ] at ha
                injection ha with ha
                subst ha
                exact fun e => unhide HQ e.symm
        · obtain rfl : m = k := by omega
          have hm6 := (unhide HM).new (unhide HB6)
          have hb6 := (unhide HB).trans ((unhide HB6).mono hsz)
          have fg1 : wr.cell? ⟨w.heap.size, 2, none⟩ = some (.slice A2 m c2) := hm6.blk.cell 2
          have fgz := hm6.blk.frozen 2
          have hgl := hm6.blk.lt
          have hszr : w.heap.size ≤ wr.heap.size := hb6.size
          have HVRW := hide (((unhide HVR).new (unhide HB6)).v)
          have HM6 := hide hm6
          have HBB := hide hb6
          have hadr : ad.block < wr.heap.size := Nat.lt_of_lt_of_le hadl' hs6
          have hb0 : Below wr.heap.size wr (wr.drew.alloc (.cells #[] 33)) := (below_drewN' (Below.refl _ _) 1).alloc (Nat.le_refl _) _
          have HOn : Hid ((wr.drew.alloc (.cells #[] 33)).ownsRow w.heap.size 33 6 (.slice (some ⟨wr.drew.heap.size, 0, none⟩) 0 0) 0 []) := hide (World.ownsRow_lit wr.drew #[] 0 (by simpa using hszr) (by simp [maxLen]) rfl)
          have HRn : Hid (RdV (wr.drew.alloc (.cells #[] 33)) wr.heap.size A3 (vrow vs)) := hide ((unhide HVRW).below hb0)
          have HB0 := hide hb0
          have hal : Below wr.heap.size wr (wr.alloc (.cells #[] 33)) := (Below.refl _ _).alloc (Nat.le_refl _) _
          have x0 : (wr.alloc (.cells #[] 33)).cell? (ad.add (m * 2)) = some (.int .i64 nd) := (hal.cell (p := ad.add (m * 2)) (by rw [block_of_add]; exact hadr)).trans d0
          have x1 : (wr.alloc (.cells #[] 33)).cell? ⟨(ad.add (m * 2)).block, (ad.add (m * 2)).off + 1, none⟩ = some (.slice A3 vs.length c3) := (hal.cell (p := ⟨(ad.add (m * 2)).block, (ad.add (m * 2)).off + 1, none⟩) (by show (ad.add (m * 2)).block < _; rw [block_of_add]; exact hadr)).trans d1
          clear hm6 hb6 hb0 c0 c1 hal
          go_upto_region 14 with fail
          go_region_law (first
            | (refine step_append_any _ rfl (.tmp 51) (.tmp 56) _ rfl w.heap.size 33 i0 _ 6 64 Try.underlying26 hi hz0 hz1 hz2 rfl (by omega) _ 0 [] (by rfl) (unhide HOn) _ A3 vs.length c3 _ (by first | (with_reducible rfl) | go_simp) (unhide HRn) (vrow_len _) vrow_one (by simp only [maxLen]; omega) (by omega) (by simp; omega) ?_
               intro A5 c5 w6 hown6 hg6 hat6 hbel6 hcc6
               rw [Nat.zero_add, List.nil_append] at hown6; rw [Nat.zero_add] at hcc6 ⊢
               have hb7 : Below wr.heap.size wr w6 := (unhide HB0).trans ((Only.of_grown (S := fun k => wr.heap.size ≤ k) hg6 (fun k e => by injection e with e; rw [← e]; exact Nat.le_refl _)).below (by simp) (fun k hk => hk))
               have hm7 := (unhide HM6).new hb7
               have HO6 := hide hown6; have HB7 := hide hb7; have HM7 := hide hm7
               have fg6 : w6.cell? ⟨w.heap.size, 2, none⟩ = some (.slice A2 m c2) := hm7.blk.cell 2
               have fgz6 := hm7.blk.frozen 2; have hgl6 := hm7.blk.lt
               have d06 : w6.cell? (ad.add (m * 2)) = some (.int .i64 nd) := (hb7.cell (p := ad.add (m * 2)) (by rw [block_of_add]; exact hadr)).trans d0
               have hsz6 := hb7.size
               have HS6 : Hid ((w6.alloc (.cells #[.int .i64 nd, .slice A5 vs.length c5] 57)).ownsRow w.heap.size 57 2 (.slice A2 m c2) m (srow lk)) := hide (hm7.row.alloc _)
               clear hown6 hg6 hat6 hbel6 hb7 hm7)
            | (refine step_append_any _ rfl (.tmp 45) (.tmp 59) _ rfl w.heap.size 57 j0 _ 2 32 Try.underlying55 hj hy0 hy1 hy2 rfl (by omega) _ m _ (by rfl) (unhide HS6) _ _ 1 1 _ (by rfl) (RdV.of_own (base := 0) (size := 2) (World.ownsRow_lit w6 #[.int .i64 nd, .slice A5 vs.length c5] 1 (Nat.zero_le _) (by simp [maxLen]) rfl)) rfl (by intro u hu; simp at hu; rcases hu with rfl | rfl <;> rfl) (by simp only [maxLen]; omega) (by omega) (by simp; omega) ?_
               intro A7 c7 w7 hown7 hg7 hat7 hbel7 hcc7
               have hps := (unhide HM7).push (nd := nd) (Nat.le_refl _) (unhide HO6) hown7 hg7
               have HPS := hide hps
               have hb7 : Blk w7 w.heap.size 82 _ := (((unhide HM7).blk.alloc (.cells #[.int .i64 nd, .slice A5 vs.length c5] 57))).grown hg7 (fun e => by
                 obtain ⟨cur, hb⟩ := own_blk (unhide HM7).row e.symm
                 exact absurd (blk_type (unhide HM7).blk hb) (by decide))
               have fg7 : w7.cell? ⟨w.heap.size, 2, none⟩ = some (.slice A2 m c2) := hb7.cell 2
               have fgz7 := hb7.frozen 2; have hgl7 := hb7.lt; clear hown7 hg7 hat7 hbel7 hps hb7))
          all_goals go_wp2_with fail
          all_goals
            obtain ⟨hm8, hb8⟩ := unhide HPS
            refine ⟨⟨m + 1, A7, c7, lk ++ [⟨nd, vs, A5, c5⟩], by omega, by go_num, by simp [unhide HLK], take_map_succ (unhide HSH) (unhide HX) rfl, hm8, ?_, fun i j a b hij hj ha hb => ?_⟩, by simp [intOf]; omega⟩
            · exact ((unhide HBB).trans ((unhide HB7).mono hszr)).trans hb8
            · rcases Nat.lt_or_ge j m with h1 | h1
              · exact unhide HNO i j a b hij h1 ha hb
              · obtain rfl : j = m := by omega
                rw [unhide HX] at hb
                injection hb with hb
                subst hb
                exact unhide HNE i a hij ha
    · obtain rfl : k = l.length := by omega
      have hsh : lk.map Sq.sh = l.map Sq.sh := by rw [unhide HSH, List.take_length]
      have hap : Apart (l.map Sq.sh) := fun i j a b hij ha hb => by
        rw [List.getElem?_map, Option.map_eq_some_iff] at ha hb
        obtain ⟨a', ha', rfl⟩ := ha
        obtain ⟨b', hb', rfl⟩ := hb
        exact unhide HNO i j a' b' hij (List.getElem?_eq_some_iff.1 hb').1 ha' hb'
      have HSH2 := hide hsh; have HAP := hide hap
      have hr := (unhide HH).new (unhide HB)
      have fh := hr.hdr
      have hql := hr.blk.lt
      have fzq := hr.blk.frozen 0
      have m0 : wr.cell? ⟨w.heap.size, 0, none⟩ = some (.int .u64 tx) := (unhide HM).blk.cell 0
      have m1 : wr.cell? ⟨w.heap.size, 1, none⟩ = some (.int .u64 low) := (unhide HM).blk.cell 1
      have m2 : wr.cell? ⟨w.heap.size, 2, none⟩ = some (.slice A2 l.length c2) := (unhide HM).blk.cell 2
      have m3 : wr.cell? ⟨w.heap.size, 3, none⟩ = some (.slice none 0 0) := (unhide HM).blk.cell 3
      have hgl := (unhide HM).blk.lt
      have HR6 : Hid ((wr.drew.alloc (.cells #[.int .u64 tx, .int .u64 low, .slice A2 l.length c2, .slice none 0 0] 82)).ownsRow 0 82 4 (.slice oA D.length oc) D.length (erow D)) := hide ((own_drewN hr.row 1).alloc _)
      have HRR := hide hr
      clear hsh hap hr
      go_upto_region 15 with fail
      go_region_law (first
        | (refine step_append_any _ rfl (.tmp 66) (.tmp 68) _ rfl 0 82 k0 _ 4 64 Try.underlying62 hk0 hx0 hx1 hx2 rfl (by omega) _ D.length _ (by rfl) (unhide HR6) _ _ 1 1 _ (by rfl) (RdV.of_own (base := 0) (size := 4) (World.ownsRow_lit wr.drew #[.int .u64 tx, .int .u64 low, .slice A2 l.length c2, .slice none 0 0] 1 (Nat.zero_le _) (by simp [maxLen]) rfl)) rfl (by intro u hu; simp at hu; rcases hu with rfl | rfl | rfl | rfl <;> rfl) (by simp only [maxLen]; omega) (by omega) (by simp) ?_
           intro A7 c7 w7 hown7 hg7 hat7 hbel7 hcc7
           have hbq7 : Blk w7 q 64 _ := (Blk.alloc (w := wr.drew) (unhide HRR).blk (.cells #[.int .u64 tx, .int .u64 low, .slice A2 l.length c2, .slice none 0 0] 82)).grown hg7 (fun e => by
             obtain ⟨cur, hb⟩ := own_blk (unhide HRR).row e.symm
             exact absurd (blk_type (unhide HRR).blk hb) (by decide))
           have fh7 : w7.cell? ⟨q, 0, none⟩ = some (.slice oA D.length oc) := hbq7.cell 0
           have fzq7 := hbq7.frozen 0
           have hql7 := hbq7.lt
           have HO7 := hide hown7; have HG7 := hide hg7; have HAT7 := hide hat7; have HBQ7 := hide hbq7
           clear hown7 hg7 hat7 hbel7 hcc7 hbq7))
      all_goals go_wp2_with fail
      all_goals
        go_ret
        have hll : lk.length = l.length := unhide HLK
        have o7 : Only (fun k => k = q ∨ (Value.slice oA D.length oc).ownBlock = some k) wr w7 := ((Only.refl _ wr).drew.alloc _).trans (Only.of_grown (unhide HG7) fun k hk => .inr hk)
        have o8 : Only (fun k => k = q ∨ (Value.slice oA D.length oc).ownBlock = some k) wr (w7.setCell ⟨q, 0, none⟩ (.slice A7 (D.length + 1) c7)) := Only.setCell (S := fun k => k = q ∨ (Value.slice oA D.length oc).ownBlock = some k) (p := ⟨q, 0, none⟩) o7 (.inl rfl) _
        have hadd := (unhide HH).add (d := ⟨tx, low, lk, A2, c2, [], none, 0⟩) (w' := w7.setCell ⟨q, 0, none⟩ (.slice A7 (D.length + 1) c7)) (A := A7) (c := c7) (unhide HB) (by
          show wr.ownsRow w.heap.size 57 2 (.slice A2 lk.length c2) lk.length (srow lk)
          rw [hll]
          exact (unhide HM).row) (unhide HM).vers ⟨rfl, rfl, rfl⟩ o8 ((unhide HBQ7).set_ 0 _) (by
          rw [erow_app]
          have e1 : erow [⟨tx, low, lk, A2, c2, [], none, 0⟩] = [.int .u64 tx, .int .u64 low, .slice A2 l.length c2, .slice none 0 0] := by
            rw [← hll]
            rfl
          rw [e1]
          refine own_only (unhide HO7) (Only.setCell (S := fun k => k = q) (p := ⟨q, 0, none⟩) (Only.refl _ _) rfl _) fun k hk e => ?_
          subst e
          obtain ⟨cur, hb⟩ := own_blk (unhide HO7) hk
          exact absurd (blk_type (unhide HBQ7) hb) (by decide)) (fun k hk => by
          rcases unhide HAT7 with hat | hat
          · rw [hat] at hk; exact .inl hk
          · rw [hat] at hk
            injection hk with hk
            exact .inr (by rw [← hk]; exact Nat.le_trans hsz (by simp)))
        exact .inr ⟨unhide HAP, rfl, A7, c7, _, _, hadd, rfl, rfl, unhide HSH2, rfl, (Only.of_new (unhide HB)).trans (o8.mono fun k _ hk => by
          rcases hk with rfl | hk
          · exact (unhide HH).foot _ (.inl rfl)
          · exact (unhide HH).foot _ (.inr (.inl hk))), fun k hk => hk.imp id fun h => h.1⟩
end Go.Proofs.Ytcljendidhfobaa
