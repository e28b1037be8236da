/- Start. -/
import Derived.Test.YtcljendidhfobaaCoDo
namespace Go.Proofs.Ytcljendidhfobaa
set_option linter.unusedVariables false
open Go.RowKit

theorem verinfo : (Try.prog.info? 33).map (fun i => (i.zero, i.size, i.bytes)) = some (some (.agg #[.string ⟨#[]⟩, .string ⟨#[]⟩, .bool false, .int .u64 0, .int .i64 0, .int .i64 0]), 6, 64) := by kernel_rfl
theorem shinfo : (Try.prog.info? 28).map (fun i => (i.zero, i.size, i.bytes)) = some (some (.agg #[.int .i64 0, .slice none 0 0]), 2, 32) := by kernel_rfl
theorem start_nil (tx low : Int) (v : Value) (w : World) : Calls Try.prog 10 #[.pointer none, .int .u64 tx, .int .u64 low, v] w fun e w' => e = .returned (.int .i64 1) ∧ w = w' := by
  go_enter Try.func10, Try.ntmps10
  go_wp2_with fail
  go_ret
  exact ⟨rfl, rfl⟩
theorem start_empty (p : Nat) (tx low : Int) (A : Option Addr) (c : Nat) (w : World) : Calls Try.prog 10 #[.pointer (some ⟨p, 0, none⟩), .int .u64 tx, .int .u64 low, .slice A 0 c] w fun e w' => e = .returned (.int .i64 1) ∧ w = w' := by
  go_enter Try.func10, Try.ntmps10
  go_wp2_with fail
  go_ret
  exact ⟨rfl, rfl⟩
theorem start_there (S : Nat → Prop) (p : Nat) (T : List Et) (tx low : Int) (A : Option Addr) (n c : Nat) (w : World) (h : TabAt w S p T) (h0 : 0 ≤ tx) (h1 : tx ≤ 18446744073709551615) (hn : (getT T tx).isSome = true) (hl : n ≠ 0) :
    Calls Try.prog 10 #[.pointer (some ⟨p, 0, none⟩), .int .u64 tx, .int .u64 low, .slice A n c] w fun e w' => e = .returned (.int .i64 8) ∧ w = w' := by
  obtain ⟨y, h⟩ := h
  have fc := h.cell
  have fl := h.look h0 h1
  obtain ⟨e, he⟩ := Option.isSome_iff_exists.1 hn
  rw [he] at fl
  simp only [Option.map_some, Option.getD_some, ptrOf] at fl
  have g1 : ((n : Int) == 0) = false := beq_eq_false_iff_ne.2 (by omega)
  have g2 : ¬ (n : Int) = 0 := by omega
  clear h hn he
  go_enter Try.func10, Try.ntmps10
  go_wp2_with fail
  go_ret
  exact ⟨rfl, rfl⟩
/-- no node twice -/
def Apart (l : List Sh) : Prop := ∀ (i j : Nat) (a b : Sh), i < j → l[i]? = some a → l[j]? = some b → a.1 ≠ b.1
theorem take_map_succ {l lk : List Sq} {k : Nat} {s s2 : Sq} (h : lk.map Sq.sh = (l.take k).map Sq.sh) (hs : l[k]? = some s) (h2 : s2.sh = s.sh) : (lk ++ [s2]).map Sq.sh = (l.take (k + 1)).map Sq.sh := by
  rw [List.take_add_one, hs, List.map_append, List.map_append, h]
  simp [h2]
/-- an entry that is being made -/
structure Making (w : World) (h0 g vm em : Nat) (low : Int) (A : Option Addr) (k c : Nat) (lk : List Sq) : Prop where
  blk : Blk w g 76 #[.int .u64 low, .slice A k c, .map (some vm), .map (some em), .int .u64 0, .bool false]
  row : w.ownsRow h0 28 2 (.slice A k c) k (srow lk)
  vers : ∀ s ∈ lk, w.ownsRow h0 33 6 (.slice s.A s.vs.length s.c) s.vs.length (vrow s.vs)
  vm : Kq Try.prog 3 .i64 (.int .u64 0) w vm 0 (fun _ => none)
  em : Kq Try.prog 3 .i64 (.bool false) w em 0 (fun _ => none)
theorem Making.new {w w' : World} {h0 g vm em : Nat} {low : Int} {A : Option Addr} {k c : Nat} {lk : List Sq} (h : Making w h0 g vm em low A k c lk) (hb : Below w.heap.size w w') : Making w' h0 g vm em low A k c lk :=
  ⟨h.blk.below hb h.blk.lt, own_below h.row hb fun g hg => (h.row.lt g hg).2, fun s hs => own_below (h.vers s hs) hb fun g hg => ((h.vers s hs).lt g hg).2,
    h.vm.only (S := fun _ => False) (Only.of_new hb) (fun h => h), h.em.only (S := fun _ => False) (Only.of_new hb) (fun h => h)⟩
theorem Making.drew {w : World} {h0 g vm em : Nat} {low : Int} {A : Option Addr} {k c : Nat} {lk : List Sq} (h : Making w h0 g vm em low A k c lk) : Making w.drew h0 g vm em low A k c lk := h.new (below_drewN' (Below.refl _ _) 1)
theorem own_blk {w : World} {b e size n g : Nat} {v : Value} {xs : List Value} (h : w.ownsRow b e size v n xs) (hv : v.ownBlock = some g) : ∃ cur, Blk w g e cur := by
  rcases h.2 with ⟨rfl, _⟩ | ⟨g2, cap, cur, rfl, _, hg, _⟩
  · cases hv
  · have hv : some g2 = some g := hv
    injection hv with hv
    subst hv
    exact ⟨cur, hg⟩
theorem blk_type {w : World} {g : Nat} {t u : TypeId} {a b : Array Value} (h : Blk w g t a) (k : Blk w g u b) : t = u := by
  unfold Blk at h k
  rw [h] at k
  injection k with k
  injection k with _ k _
theorem own_not_map {w : World} {base e size n n' g j : Nat} {v : Value} {xs : List Value} {P : Program} {k : TypeId} {q : IntKind} {z : Value} {M : Int → Option Value} (h : w.ownsRow base e size v n xs) (hv : v.ownBlock = some g) (hm : Kq P k q z w j n' M) : g ≠ j := by
  obtain ⟨cur, hb⟩ := own_blk h hv
  exact blk_not_map hb hm
theorem Making.push {w w' : World} {h0 g vm em : Nat} {low : Int} {A A4 A7 : Option Addr} {k c c4 c7 : Nat} {lk : List Sq} {nd : Int} {vs : List Vr} (h : Making w h0 g vm em low A k c lk) (hgh : h0 ≤ g) (hvs : w.ownsRow h0 33 6 (.slice A4 vs.length c4) vs.length (vrow vs))
    (hr : w'.ownsRow h0 28 2 (.slice A7 (k + 1) c7) (k + 1) (srow lk ++ [.int .i64 nd, .slice A4 vs.length c4])) {cs : Array Value} {t : TypeId} (hg : (w.alloc (.cells cs t)).grownBy w' (Value.slice A k c).ownBlock) :
    Making (w'.setCell ⟨g, 1, none⟩ (.slice A7 (k + 1) c7)) h0 g vm em low A7 (k + 1) c7 (lk ++ [⟨nd, vs, A4, c4⟩]) ∧ Below h0 w (w'.setCell ⟨g, 1, none⟩ (.slice A7 (k + 1) c7)) := by
  have hgo : (Value.slice A k c).ownBlock ≠ some g := fun e => by
    obtain ⟨cur, hb⟩ := own_blk h.row e
    exact absurd (blk_type h.blk hb) (by decide)
  have o1 : Only (fun b => (Value.slice A k c).ownBlock = some b) w w' := (Only.of_new ((Below.refl _ w).alloc (Nat.le_refl _) _)).trans (Only.of_grown hg fun b hb => hb)
  have o2 : Only (fun b => (Value.slice A k c).ownBlock = some b ∨ b = g) w (w'.setCell ⟨g, 1, none⟩ (.slice A7 (k + 1) c7)) := Only.setCell (S := fun b => (Value.slice A k c).ownBlock = some b ∨ b = g) (p := ⟨g, 1, none⟩) (o1.mono fun b _ hb => .inl hb) (.inr rfl) _
  have hb1 : Blk w' g 76 _ := h.blk.only o1 hgo
  have hvo : ∀ (s : Sq), w.ownsRow h0 33 6 (.slice s.A s.vs.length s.c) s.vs.length (vrow s.vs) → (w'.setCell ⟨g, 1, none⟩ (.slice A7 (k + 1) c7)).ownsRow h0 33 6 (.slice s.A s.vs.length s.c) s.vs.length (vrow s.vs) := fun s hs =>
    own_only hs o2 fun b hb hS => by
      obtain ⟨cur, hbv⟩ := own_blk hs hb
      rcases hS with hS | rfl
      · obtain ⟨cur2, hb2⟩ := own_blk h.row hS
        exact absurd (blk_type hbv hb2) (by decide)
      · exact absurd (blk_type hbv h.blk) (by decide)
  have hmp : ∀ {k' : TypeId} {q : IntKind} {z : Value} {m n : Nat} {M : Int → Option Value}, Kq Try.prog k' q z w m n M → ¬ ((Value.slice A k c).ownBlock = some m ∨ m = g) := fun hm hS => by
    rcases hS with hS | rfl
    · exact own_not_map h.row hS hm rfl
    · exact blk_not_map h.blk hm rfl
  refine ⟨⟨hb1.set_ 1 _, ?_, fun s hs => ?_, h.vm.only o2 (hmp h.vm), h.em.only o2 (hmp h.em)⟩, o2.below ?_ fun b hb => ?_⟩
  · rw [srow_app]
    refine own_only hr (Only.setCell (S := fun b => b = g) (p := ⟨g, 1, none⟩) (Only.refl _ _) rfl _) fun b hb e => ?_
    subst e
    obtain ⟨cur, hb2⟩ := own_blk hr hb
    exact absurd (blk_type hb1 hb2) (by decide)
  · rcases List.mem_append.1 hs with hs | hs
    · exact hvo s (h.vers s hs)
    · simp at hs
      subst hs
      exact hvo ⟨nd, vs, A4, c4⟩ hvs
  · exact Nat.le_trans hgh (Nat.le_of_lt h.blk.lt)
  · rcases hb with hb | rfl
    · exact (h.row.lt b hb).1
    · exact hgh
theorem making_start (w : World) (low : Int) : Making (((w.alloc (.map #[] 0)).alloc (.map #[] 0)).alloc (.cells #[.int .u64 low, .slice none 0 0, .map (some w.heap.size), .map (some (w.heap.size + 1)), .int .u64 0, .bool false] 76)) w.heap.size (w.heap.size + 1 + 1) w.heap.size (w.heap.size + 1) low none 0 0 [] ∧
    Below w.heap.size w (((w.alloc (.map #[] 0)).alloc (.map #[] 0)).alloc (.cells #[.int .u64 low, .slice none 0 0, .map (some w.heap.size), .map (some (w.heap.size + 1)), .int .u64 0, .bool false] 76)) := by
  have s1 : (w.alloc (.map #[] 0)).heap.size = w.heap.size + 1 := by simp
  have s2 : ((w.alloc (.map #[] 0)).alloc (.map #[] 0)).heap.size = w.heap.size + 1 + 1 := by simp
  have o1 : Only (fun _ => False) (w.alloc (.map #[] 0)) (((w.alloc (.map #[] 0)).alloc (.map #[] 0)).alloc (.cells #[.int .u64 low, .slice none 0 0, .map (some w.heap.size), .map (some (w.heap.size + 1)), .int .u64 0, .bool false] 76)) := ((Only.refl _ _).alloc _).alloc _
  have o2 : Only (fun _ => False) ((w.alloc (.map #[] 0)).alloc (.map #[] 0)) (((w.alloc (.map #[] 0)).alloc (.map #[] 0)).alloc (.cells #[.int .u64 low, .slice none 0 0, .map (some w.heap.size), .map (some (w.heap.size + 1)), .int .u64 0, .bool false] 76)) := (Only.refl _ _).alloc _
  have kv := Kq.made (P := Try.prog) (k := 3) (q := .i64) (z := .int .u64 0) w
  have ke := Kq.made (P := Try.prog) (k := 3) (q := .i64) (z := .bool false) (w.alloc (.map #[] 0))
  rw [s1] at ke
  refine ⟨⟨?_, own_nil _ _ _ _, fun s hs => absurd hs (by simp), kv.only o1 (fun h => h), ke.only o2 (fun h => h)⟩, (((Below.refl _ _).alloc (Nat.le_refl _) _).alloc (by simp) _).alloc (by simp; omega) _⟩
  have := Blk.new ((w.alloc (.map #[] 0)).alloc (.map #[] 0)) 76 #[.int .u64 low, .slice none 0 0, .map (some w.heap.size), .map (some (w.heap.size + 1)), .int .u64 0, .bool false]
  rw [s2] at this
  exact this
theorem Making.done {w : World} {h0 : Nat} {tx low : Int} {A : Option Addr} {k c : Nat} {lk : List Sq} {shs : List Sh} (h : Making w h0 (h0 + 1 + 1) h0 (h0 + 1) low A k c lk) (hl : lk.map Sq.sh = shs) (hk : shs.length = k) (hpos : 0 < k) :
    EntAt w (fun b => h0 ≤ b ∧ b < w.heap.size) ⟨h0 + 1 + 1, A, c, h0, h0 + 1, lk⟩ ⟨tx, low, shs, [], []⟩ := by
  have hF : ∀ {v : Value} {n e size : Nat} {xs : List Value}, w.ownsRow h0 e size v n xs → e ≠ 76 → ∀ b, v.ownBlock = some b → (h0 ≤ b ∧ b < w.heap.size) ∧ b ≠ h0 + 1 + 1 ∧ b ≠ h0 ∧ b ≠ h0 + 1 := fun ho hne b hb =>
    ⟨ho.lt b hb, fun e => by
      subst e
      obtain ⟨cur, hb2⟩ := own_blk ho hb
      exact hne (blk_type hb2 h.blk), own_not_map ho hb h.vm, own_not_map ho hb h.em⟩
  subst hl
  refine ⟨?_, rfl, ⟨RdS.of_own h.row (hF h.row (by decide)), fun s hs => RdS.of_own (h.vers s hs) (hF (h.vers s hs) (by decide))⟩, h.vm.ext fun a _ => rfl, h.em.ext fun a _ => by simp, ⟨by show h0 ≤ h0 + 1 + 1; omega, h.blk.lt⟩, ⟨Nat.le_refl _, h.vm.lt⟩, ⟨by show h0 ≤ h0 + 1; omega, h.em.lt⟩, by simp⟩
  have e5 : (Et.dec ⟨tx, low, lk.map Sq.sh, [], []⟩) = false := by
    unfold Et.dec
    simp only [List.length_nil]
    exact beq_eq_false_iff_ne.2 (by omega)
  unfold entCells
  rw [e5, hk]
  exact h.blk
set_option maxHeartbeats 8000000 in
set_option maxRecDepth 20000 in
theorem start_any (S F : Nat → Prop) (p : Nat) (T : List Et) (tx low : Int) (A : Option Addr) (c : Nat) (l : List Sq) (w : World) (h : TabAt w S p T) (h0 : 0 ≤ tx) (h1 : tx ≤ 18446744073709551615) (hn : getT T tx = none) (hlen : T.length ≤ 4096)
    (hl : l ≠ []) (hl2 : l.length ≤ 4096) (hc : l.length ≤ c) (hs : ShsAt w F A l) (hv : ∀ s ∈ l, s.vs.length ≤ 4096) :
    Calls Try.prog 10 #[.pointer (some ⟨p, 0, none⟩), .int .u64 tx, .int .u64 low, .slice A l.length c] w fun e w' =>
      (¬ Apart (l.map Sq.sh) ∧ e = .returned (.int .i64 3) ∧ Below w.heap.size w w') ∨
      (Apart (l.map Sq.sh) ∧ e = .returned (.int .i64 0) ∧ TabAt w' (fun k => S k ∨ (w.heap.size ≤ k ∧ k < w'.heap.size)) p (T ++ [⟨tx, low, l.map Sq.sh, [], []⟩]) ∧ Only S w w') := by
  obtain ⟨i0, hi, hz0, hz1, hz2⟩ := info_parts verinfo
  obtain ⟨j0, hj, hy0, hy1, hy2⟩ := info_parts shinfo
  obtain ⟨y, h⟩ := h
  have fc := h.cell
  have fl := h.look h0 h1
  rw [hn] at fl
  simp only [Option.map_none, Option.getD_none] at fl
  have hpos : 0 < l.length := List.length_pos_iff.2 hl
  have g1 : ((l.length : Int) == 0) = false := beq_eq_false_iff_ne.2 (by omega)
  have g2 : ¬ (l.length : Int) = 0 := by omega
  obtain ⟨ad, hA, _, hadl, _⟩ := hs.row (by rw [srow_len]; omega)
  subst hA
  have hpl := h.blk.lt
  have HT := hide h
  have HS := hide hs
  have HV := hide hv
  have HN := hide hn
  have HW := hide (wf64 h0 h1)
  clear h hn hs hv hl h0 h1
  have hmm := @run_makeMap Try.prog
  go_enter Try.func10, Try.ntmps10
  go_wp2_with fail
  go_loopw [35] (fun i wr => ∃ (k : Nat) (A2 : Option Addr) (c2 : Nat) (lk : List Sq), k ≤ l.length ∧ i = .int .i64 k ∧ lk.length = k ∧ lk.map Sq.sh = (l.take k).map Sq.sh ∧ Making wr w.heap.size (w.heap.size + 1 + 1) w.heap.size (w.heap.size + 1) low A2 k c2 lk ∧ Below w.heap.size w wr ∧
      ∀ (i j : Nat) (a b : Sq), i < j → j < k → l[i]? = some a → l[j]? = some b → a.node ≠ b.node) (fun i _ => l.length - (intOf i).toNat)
  case atStart => exact ⟨0, none, 0, [], by omega, rfl, rfl, rfl, (making_start w low).1, (making_start w low).2, fun i j a b _ hj => by omega⟩
  case round =>
    obtain ⟨k, A2, c2, lk, hk, rfl, hlk, hsh, hmk, hb, hno⟩ := hrel
    have HB := hide hb
    have HM := hide hmk
    have HNO := hide hno
    have HSH := hide hsh
    have HLK := hide hlk
    have hsz := hb.size
    clear hb hmk hno hsh hlk
    by_cases hlt : k < l.length
    · obtain ⟨s, hs⟩ : ∃ s, l[k]? = some s := ⟨l[k], List.getElem?_eq_getElem hlt⟩
      obtain ⟨ad', hA', _, hadl', c0, c1⟩ := ((unhide HS).new (unhide HB)).at_ hs
      injection hA' with hA'
      subst hA'
      rw [← Addr.add_add] at c1
      have c1' : wr.cell? ⟨(ad.add (k * 2)).block, (ad.add (k * 2)).off + 1, none⟩ = some (.slice s.A s.vs.length s.c) := c1
      have HVR := hide ((unhide HS).vers s (List.mem_of_getElem? hs))
      have hvl := (unhide HV) s (List.mem_of_getElem? hs)
      obtain ⟨nd, vs, A3, c3⟩ := s
      simp only at c0 c1' HVR hvl
      have HX := hide hs
      clear hs c1
      go_wp2_with fail
      have hb5 : Below wr.heap.size wr (wr.alloc (.cells #[.int .i64 nd, .slice A3 vs.length c3] 28)) := (Below.refl _ _).alloc (Nat.le_refl _) _
      have hq5 : Blk (wr.alloc (.cells #[.int .i64 nd, .slice A3 vs.length c3] 28)) wr.heap.size 28 #[.int .i64 nd, .slice A3 vs.length c3] := Blk.new _ _ _
      obtain ⟨w5, hw5⟩ : ∃ u, wr.alloc (.cells #[.int .i64 nd, .slice A3 vs.length c3] 28) = u := ⟨_, rfl⟩
      rw [hw5] at hb5 hq5 ⊢
      have HM5 := hide ((unhide HM).new hb5)
      have HB5 := hide ((unhide HB).trans (hb5.mono hsz))
      have hb1l : wr.heap.size < w5.heap.size := hq5.lt
      have hsz5 : w.heap.size ≤ w5.heap.size := (unhide HB5).size
      obtain ⟨b1, hb1⟩ : ∃ b, wr.heap.size = b := ⟨_, rfl⟩
      rw [hb1] at hq5 hb1l ⊢
      have HQ5 := hide hq5
      clear hb5 hq5 hw5 HM HB c0 c1' hadl' hb1 hsz
      clear wr
      go_loopw [44] (fun jx wq => ∃ m : Nat, m ≤ k ∧ jx = .int .i64 m ∧ Below w5.heap.size w5 wq ∧ ∀ (i : Nat) (a : Sq), i < m → l[i]? = some a → a.node ≠ nd) (fun jx _ => k - (intOf jx).toNat)
      case atStart => exact ⟨0, by omega, rfl, Below.refl _ _, fun i a hi => by omega⟩
      case round =>
        obtain ⟨m, hm, rfl, hb, hne⟩ := hrel
        have HB6 := hide hb
        have HNE := hide hne
        have d0 : wr.cell? ⟨b1, 0, none⟩ = some (.int .i64 nd) := (hb.cell (p := ⟨b1, 0, none⟩) hb1l).trans ((unhide HQ5).cell 0)
        have d1 : wr.cell? ⟨b1, 1, none⟩ = some (.slice A3 vs.length c3) := (hb.cell (p := ⟨b1, 1, none⟩) hb1l).trans ((unhide HQ5).cell 1)
        have hb1r : b1 < wr.heap.size := Nat.lt_of_lt_of_le hb1l hb.size
        clear hb hne
        by_cases hmk : m < k
        · obtain ⟨z, hz⟩ : ∃ z, l[m]? = some z := ⟨l[m], List.getElem?_eq_getElem (by omega)⟩
          obtain ⟨ad', hA', _, hadl', c0, c1⟩ := (((unhide HS).new (unhide HB5)).new (unhide HB6)).at_ hz
          injection hA' with hA'
          subst hA'
          rw [← Addr.add_add] at c1
          have c1' : wr.cell? ⟨(ad.add (m * 2)).block, (ad.add (m * 2)).off + 1, none⟩ = some (.slice z.A z.vs.length z.c) := c1
          obtain ⟨zn, zvs, zA, zc⟩ := z
          simp only at c0 c1'
          have HZ := hide hz
          clear hz c1
          by_cases hq : zn = nd
          · subst hq
            go_wp2_with fail
            go_ret
            refine .inl ⟨fun ha => ?_, rfl, ?_⟩
            · exact ha m k (zn, zvs) (zn, vs) hmk (by rw [List.getElem?_map, unhide HZ]; rfl) (by rw [List.getElem?_map, unhide HX]; rfl) rfl
            · exact ((unhide HB5).trans ((unhide HB6).mono hsz5)).alloc (Nat.le_trans hsz5 (unhide HB6).size) _
          · have fq : (zn == nd) = false := beq_eq_false_iff_ne.2 hq
            have HQ := hide hq
            clear hq
            go_wp2_with fail
            refine ⟨⟨m + 1, by omega, by go_num, (unhide HB6).alloc (unhide HB6).size _, fun i a hi ha => ?_⟩, by simp [intOf]; omega⟩
            rcases Nat.lt_or_ge i m with h1 | h1
            · exact unhide HNE i a h1 ha
            · obtain rfl : i = m := by omega
              rw [unhide HZ] at ha
              injection ha with ha
              subst ha
              exact unhide HQ
        · obtain rfl : m = k := by omega
          have hm6 := (unhide HM5).new (unhide HB6)
          have hb6 := (unhide HB5).trans ((unhide HB6).mono hsz5)
          have fg1 : wr.cell? ⟨w.heap.size + 1 + 1, 1, none⟩ = some (.slice A2 m c2) := hm6.blk.cell 1
          have fgz := hm6.blk.frozen 1
          have hgl := hm6.blk.lt
          have HRn : Hid (∀ n : Nat, RdV (wr.drewN n) wr.heap.size A3 (vrow vs)) := hide (fun n => ((((unhide HVR).new (unhide HB5)).new (unhide HB6)).drewN n).v)
          have HM6 := hide hm6
          have HBB := hide hb6
          have hszr : w.heap.size ≤ wr.heap.size := hb6.size
          clear hm6 hb6 HM5 HB5 HB6 HQ5 hsz5 hb1l
          go_upto_region 15 with fail
          go_region_law (first
            | (refine step_append_any _ rfl (.const (.slice none 0 0)) (.tmp 62) _ rfl wr.heap.size 33 i0 _ 6 64 Try.underlying26 hi hz0 hz1 hz2 rfl (by omega) _ 0 [] (by rfl) (own_nil _ _ _ _) _ A3 vs.length c3 _ (by first | (with_reducible rfl) | go_simp) (unhide HRn _) (vrow_len _) vrow_one (by simp only [maxLen]; omega) (by omega) (by simp) ?_
               intro A4 c4 w6 hown6 hg6 hat6 hbel6 hcc6
               rw [Nat.zero_add, List.nil_append] at hown6; rw [Nat.zero_add] at hcc6 ⊢
               have hb6 : Below wr.heap.size wr w6 := ⟨hbel6.os, hbel6.tape, hbel6.output, hbel6.size, hbel6.block⟩
               have hm6 := (unhide HM6).new hb6
               have HO6 := hide hown6; have HB6 := hide hb6; have HM7 := hide hm6
               have fg6 : w6.cell? ⟨w.heap.size + 1 + 1, 1, none⟩ = some (.slice A2 m c2) := hm6.blk.cell 1
               have fgz6 := hm6.blk.frozen 1; have hgl6 := hm6.blk.lt
               have d06 : w6.cell? ⟨b1, 0, none⟩ = some (.int .i64 nd) := (hb6.cell (p := ⟨b1, 0, none⟩) hb1r).trans d0
               have hsz6 := hb6.size
               have HS6 : Hid ((w6.alloc (.cells #[.int .i64 nd, .slice A4 vs.length c4] 28)).ownsRow w.heap.size 28 2 (.slice A2 m c2) m (srow lk)) := hide (hm6.row.alloc _)
               clear hown6 hg6 hat6 hbel6 hb6 hm6)
            | (refine step_append_any _ rfl (.tmp 58) (.tmp 65) _ rfl w.heap.size 28 j0 _ 2 32 Try.underlying22 hj hy0 hy1 hy2 rfl (by omega) _ m _ (by rfl) (unhide HS6) _ _ 1 1 _ (by rfl) (RdV.of_own (base := 0) (size := 2) (World.ownsRow_lit w6 #[.int .i64 nd, .slice A4 vs.length c4] 1 (Nat.zero_le _) (by simp [maxLen]) rfl)) rfl (by intro u hu; simp at hu; rcases hu with rfl | rfl <;> rfl) (by simp only [maxLen]; omega) (by omega) (by simp; omega) ?_
               intro A7 c7 w7 hown7 hg7 hat7 hbel7 hcc7
               have hps := (unhide HM7).push (nd := nd) (by omega) (own_more (unhide HO6) (fun k hk => by have := ((unhide HO6).lt k hk).1; omega)) hown7 hg7
               have HPS := hide hps
               have hb7 : Blk w7 (w.heap.size + 1 + 1) 76 _ := (((unhide HM7).blk.alloc (.cells #[.int .i64 nd, .slice A4 vs.length c4] 28))).grown hg7 (fun e => by
                 obtain ⟨cur, hb⟩ := own_blk (unhide HM7).row e.symm
                 exact absurd (blk_type (unhide HM7).blk hb) (by decide))
               have fg7 : w7.cell? ⟨w.heap.size + 1 + 1, 1, none⟩ = some (.slice A2 m c2) := hb7.cell 1
               have fgz7 := hb7.frozen 1; have hgl7 := hb7.lt; clear hown7 hg7 hat7 hbel7 hps hb7))
          all_goals go_wp2_with fail
          all_goals
            obtain ⟨hm8, hb8⟩ := unhide HPS
            refine ⟨⟨m + 1, A7, c7, lk ++ [⟨nd, vs, A4, c4⟩], by omega, by go_num, by simp [unhide HLK], take_map_succ (unhide HSH) (unhide HX) rfl, hm8, ?_, fun i j a b hij hj ha hb => ?_⟩, by simp [intOf]; omega⟩
            · exact ((unhide HBB).trans ((unhide HB6).mono hszr)).trans hb8
            · rcases Nat.lt_or_ge j m with h1 | h1
              · exact unhide HNO i j a b hij h1 ha hb
              · obtain rfl : j = m := by omega
                rw [unhide HX] at hb
                injection hb with hb
                subst hb
                exact unhide HNE i a hij ha
    · obtain rfl : k = l.length := by omega
      have hsh : lk.map Sq.sh = l.map Sq.sh := by rw [unhide HSH, List.take_length]
      have hent := (unhide HM).done (tx := tx) hsh (by simp) hpos
      have htr := (unhide HT).only (S' := fun _ => False) (Only.of_new (unhide HB)) fun _ _ h => h
      obtain ⟨w9, hrun9, hk9, ho9, hs9⟩ := Kq.store htr.map Try.underlying31 (t := 70) Try.underlying70 (by simp only [maxLen]; omega) (unhide HW) (by rw [unhide HN]; rfl) (ptrOf ⟨w.heap.size + 1 + 1, A2, c2, w.heap.size, w.heap.size + 1, lk⟩)
      have hadd := (unhide HT).add (e := ⟨tx, low, l.map Sq.sh, [], []⟩) (unhide HN) (unhide HB) hent ho9 hk9
      rw [← hs9] at hadd
      have hfin : TabAt w9 (fun k => S k ∨ (w.heap.size ≤ k ∧ k < w9.heap.size)) p (T ++ [⟨tx, low, l.map Sq.sh, [], []⟩]) ∧ Only S w w9 := ⟨⟨_, hadd⟩, (Only.of_new (unhide HB)).trans (ho9.mono fun k _ h => by rw [h]; exact (unhide HT).sm)⟩
      have HFI := hide hfin
      have hap : Apart (l.map Sq.sh) := fun i j a b hij ha hb => by
        rw [List.getElem?_map, Option.map_eq_some_iff] at ha hb
        obtain ⟨a', ha', rfl⟩ := ha
        obtain ⟨b', hb', rfl⟩ := hb
        exact unhide HNO i j a' b' hij (List.getElem?_eq_some_iff.1 hb').1 ha' hb'
      have HAP := hide hap
      have fcr := htr.cell
      have hplr : p < wr.heap.size := Nat.lt_of_lt_of_le hpl hsz
      unfold ptrOf at hrun9
      clear hent htr hk9 ho9 hs9 hadd hfin hap hsh
      go_wp2_with fail
      go_ret
      exact .inr ⟨unhide HAP, rfl, unhide HFI⟩
end Go.Proofs.Ytcljendidhfobaa
