/- The document's net: Send; Look. -/
import Derived.Test.YtbclfiollfagmaaNetRef
import Derived.Test.YtbclfiollfagmaaKnown
import Derived.Test.YtbclfiollfagmaaAppendStep
namespace Go.Proofs.Ytbclfiollfagmaa
set_option linter.unusedVariables false
open Go.RowKit

theorem dpkinfo : (Try.prog.info? 68).map (fun i => (i.zero, i.size, i.bytes)) = some (some (.agg #[.int .i64 0, .int .i64 0, .slice none 0 0, .bool false]), 4, 48) := by kernel_rfl
theorem dhdr_block (A : Option Addr) (c : Nat) (r : List DP) (l : Int) (n : Nat) : (dhdr ⟨A, c, r, l⟩).ownBlock = (Value.slice A n c).ownBlock := by
  unfold dhdr
  cases A with
  | none => rfl
  | some a => rfl
/-- a packet more behind the row -/
theorem DStep.push {w w2 w4 : World} {B q : Nat} {d d1 : DS} (hst : DStep w w2 B q d d1) (hB : B ≤ w.heap.size) {x : DP} {A : Option Addr} {c : Nat} {o : Obj} (hx : w2.ownsRow w.heap.size 5 1 (bv x.2.1) x.2.1.1.length (x.2.1.1.map Bv)) (hsm : x.2.1.1.length ≤ 4096)
    (hown : w4.ownsRow B 68 4 (.slice A (d1.row.length + 1) c) (d1.row.length + 1) (dCells d1.row ++ dcell x)) (hg : (w2.alloc o).grownBy w4 (dhdr d1).ownBlock)
    (hat : (Value.slice A (d1.row.length + 1) c).ownBlock = (dhdr d1).ownBlock ∨ (Value.slice A (d1.row.length + 1) c).ownBlock = some (w2.alloc o).heap.size) :
    DStep w (w4.setCell ⟨q, 0, none⟩ (.slice A (d1.row.length + 1) c)) B q d ⟨A, c, d1.row ++ [x], d1.lost⟩ := by
  have hl : (d1.row ++ [x]).length = d1.row.length + 1 := by simp
  have e : dhdr ⟨A, c, d1.row ++ [x], d1.lost⟩ = .slice A (d1.row.length + 1) c := by rw [dhdr, hl]
  have hq := hst.at_.blk.lt
  have hqr : (dhdr d1).ownBlock ≠ some q := fun e2 => by
    obtain ⟨cur, hb⟩ := own_blk hst.at_.row e2
    exact absurd (blk_type hst.at_.blk hb) (by decide)
  have ho : Only (fun g => g = q ∨ (dhdr d1).ownBlock = some g) w2 (w4.setCell ⟨q, 0, none⟩ (.slice A (d1.row.length + 1) c)) :=
    Only.setCell (S := fun g => g = q ∨ (dhdr d1).ownBlock = some g) (p := ⟨q, 0, none⟩) (((Only.refl _ w2).alloc o).trans (Only.of_grown hg fun k hk => .inr hk)) (.inl rfl) _
  have hbk := ((hst.at_.blk.alloc o).grown hg (fun e => hqr e.symm)).set_ 0 (.slice A (d1.row.length + 1) c)
  have hne : ∀ g, (Value.slice A (d1.row.length + 1) c).ownBlock = some g → g ≠ q := fun g hg2 e2 => by
    subst e2
    rcases hat with h1 | h1
    · exact hqr (h1 ▸ hg2)
    · rw [h1] at hg2
      injection hg2 with hg2
      simp at hg2
      omega
  have hbody : ∀ (y : DP) (b : Nat), w2.ownsRow b 5 1 (bv y.2.1) y.2.1.1.length (y.2.1.1.map Bv) → (w4.setCell ⟨q, 0, none⟩ (.slice A (d1.row.length + 1) c)).ownsRow b 5 1 (bv y.2.1) y.2.1.1.length (y.2.1.1.map Bv) := fun y b hy => own_only hy ho fun g hg hS => by
    obtain ⟨cur, hb1⟩ := own_blk hy hg
    rcases hS with rfl | hS
    · exact absurd (blk_type hst.at_.blk hb1) (by decide)
    · obtain ⟨cur2, hb2⟩ := own_blk hst.at_.row hS
      exact absurd (blk_type hb2 hb1) (by decide)
  refine ⟨⟨by rw [e]; exact hbk, ?_, fun y hy => ?_, hst.at_.ge, fun y hy => ?_⟩, hst.only.trans' (ho.mono fun g _ hS => ?_) hst.foot, fun g hg2 => ?_⟩
  · rw [e]
    show (w4.setCell _ _).ownsRow B _ 4 _ (d1.row ++ [x]).length (dCells (d1.row ++ [x]))
    rw [hl, dCells_app, show dCells [x] = dcell x by simp [dCells]]
    exact ownsRow_setCell_other hown (fun e2 => hne q e2 rfl) _
  · rcases List.mem_append.1 hy with hy | hy
    · exact hbody y B (hst.at_.body y hy)
    · obtain rfl := List.mem_singleton.1 hy
      exact own_more (hbody y _ hx) fun g hg => Nat.le_trans hB (hx.lt g hg).1
  · rcases List.mem_append.1 hy with hy | hy
    · exact hst.at_.small y hy
    · obtain rfl := List.mem_singleton.1 hy
      exact hsm
  · rcases hS with rfl | hS
    · exact .inl rfl
    · exact .inr (.inl hS)
  · rcases hg2 with rfl | hg2 | ⟨y, hy, hg2⟩
    · exact hst.foot _ (.inl rfl)
    · rw [e] at hg2
      rcases hat with h1 | h1
      · exact hst.foot g (.inr (.inl (h1 ▸ hg2)))
      · rw [h1] at hg2
        injection hg2 with hg2
        simp at hg2
        have := hst.only.size
        exact .inr (by omega)
    · rcases List.mem_append.1 hy with hy | hy
      · exact hst.foot g (.inr (.inr ⟨y, hy, hg2⟩))
      · obtain rfl := List.mem_singleton.1 hy
        exact .inr (hx.lt g hg2).1
theorem dsend_away (q : Nat) (f t : Int) (v : Value) (w : World) (h : ¬ Rt f t) : Calls Try.prog 30 #[.pointer (some ⟨q, 0, none⟩), .int .i64 f, .int .i64 t, v] w fun e w' => e = .returned (.int .i64 1) ∧ w = w' := by
  have HR := hide (fun u => rright_no f t u h)
  clear h
  go_enter Try.func30, Try.ntmps30
  go_wp2_with (go_at_call 9; refine (unhide HR _).mono ?_; rintro _ w2 ⟨rfl, rfl⟩)
  go_ret
  exact ⟨rfl, rfl⟩
theorem rright_rt {f t : Int} (hr : Rt f t) (u : World) : Calls Try.prog 9 #[.int .i64 f, .int .i64 t] u fun e w' => e = .returned (.bool true) ∧ u = w' := by
  obtain ⟨a, b, rfl, rfl, ha, hb, hab, _⟩ := hr.nat
  exact rright_yes a b u ha hb hab
theorem DocAt.setLost {w : World} {B q : Nat} {d : DS} (h : DocAt w B q d) (hB : B ≤ w.heap.size) (n : Int) : DStep w (w.setCell ⟨q, 1, none⟩ (.int .i64 n)) B q d { d with lost := n } := by
  have ho : Only (fun g => g = q ∨ (dhdr d).ownBlock = some g) w (w.setCell ⟨q, 1, none⟩ (.int .i64 n)) := Only.setCell (S := fun g => g = q ∨ (dhdr d).ownBlock = some g) (p := ⟨q, 1, none⟩) (Only.refl _ w) (.inl rfl) _
  have hqr : (dhdr d).ownBlock ≠ some q := fun e2 => by
    obtain ⟨cur, hb⟩ := own_blk h.row e2
    exact absurd (blk_type h.blk hb) (by decide)
  exact h.to hB ho (h.blk.set_ 1 _) (ownsRow_setCell_other h.row (fun e => hqr e) _) (.inl rfl) (fun x hx => .inl hx)
set_option maxHeartbeats 1000000 in
theorem dsend_full (B q : Nat) (d : DS) (f t : Int) (v : Value) (w : World) (h : DocAt w B q d) (hB : B ≤ w.heap.size) (hs : d.row.length ≤ 100000) (hr : Rt f t) (hn : 48 ≤ (way f t d.row).length) (hl0 : 0 ≤ d.lost) (hl : d.lost ≤ 1000000) :
    Calls Try.prog 30 #[.pointer (some ⟨q, 0, none⟩), .int .i64 f, .int .i64 t, v] w fun e w' => e = .returned (.int .i64 9) ∧ DStep w w' B q d { d with lost := d.lost + 1 } := by
  have HR := hide (fun u => rright_rt hr u)
  have HL := hide (dlen_any B q d f t w h hs)
  have g1 : decide ((48 : Int) ≤ ((way f t d.row).length : Int)) = true := decide_eq_true (by omega)
  have fl := h.hdr1
  have fz := h.blk.frozen 1
  have H := hide (h.setLost hB (d.lost + 1))
  clear h hr hn
  go_enter Try.func30, Try.ntmps30
  go_wp2_with (first
    | (go_at_call 9; refine (unhide HR _).mono ?_; rintro _ w2 ⟨rfl, rfl⟩)
    | (go_at_call 22; refine (unhide HL).mono ?_; rintro _ w2 ⟨rfl, rfl⟩))
  go_ret
  exact ⟨rfl, unhide H⟩
def DSent (w : World) (B q : Nat) (d : DS) (f t : Int) (l : List UInt8) (e : Ending) (w' : World) : Prop := e = .returned (.int .i64 0) ∧ ∃ A4 c4 A2 c2, DStep w w' B q d ⟨A4, c4, d.row ++ [((f, t), ((l, A2, c2), false))], d.lost⟩
set_option maxHeartbeats 1000000 in
set_option maxRecDepth 20000 in
theorem dsend_ok (B q : Nat) (d : DS) (f t : Int) (l : List UInt8) (A : Option Addr) (c Bb : Nat) (w : World) (h : DocAt w B q d) (hB : B ≤ w.heap.size) (hs : d.row.length ≤ 100000) (hr : Rt f t) (hn : (way f t d.row).length < 48) (hrd : RdB w Bb A l) (hBb : Bb ≤ w.heap.size) (hl : l.length ≤ 4096) :
    Calls Try.prog 30 #[.pointer (some ⟨q, 0, none⟩), .int .i64 f, .int .i64 t, .slice A l.length c] w (DSent w B q d f t l) := by
  obtain ⟨i0, hi, hz0, hz1, hz2⟩ := info_parts u8info
  obtain ⟨j0, hj, hy0, hy1, hy2⟩ := info_parts dpkinfo
  have HR := hide (fun u => rright_rt hr u)
  have HL := hide (dlen_any B q d f t w h hs)
  have g1 : decide ((48 : Int) ≤ ((way f t d.row).length : Int)) = false := decide_eq_false (by omega)
  have HD := hide h
  have fc := h.hdr0
  have fca : (w.alloc (.cells #[] 5)).cell? ⟨q, 0, none⟩ = some (.slice d.A d.row.length d.c) := (h.blk.alloc _).cell 0
  have HRn : Hid (RdB (w.alloc (.cells #[] 5)).drew Bb A l) := hide ((hrd.alloc hBb _).drewN 1)
  have HOn : Hid ((w.alloc (.cells #[] 5)).drew.ownsRow w.heap.size 5 1 (.slice (some ⟨w.heap.size, 0, none⟩) 0 0) 0 []) := hide (own_drewN (own_new w w.heap.size #[] 5 0 [] (Nat.le_refl _) (by simp [maxLen]) rfl rfl) 1)
  have hql := h.blk.lt
  clear h hr hn hrd
  go_enter Try.func30, Try.ntmps30
  go_upto_region 6 with (first
    | (go_at_call 9; refine (unhide HR _).mono ?_; rintro _ w2 ⟨rfl, rfl⟩)
    | (go_at_call 22; refine (unhide HL).mono ?_; rintro _ w2 ⟨rfl, rfl⟩))
  go_region_law (first
    | (refine step_append_any _ rfl (.tmp 32) (.tmp 33) _ rfl w.heap.size 5 i0 _ 1 1 Try.underlying31 hi hz0 hz1 hz2 rfl (by omega) (.slice (some ⟨w.heap.size, 0, none⟩) 0 0) 0 [] (by first | (with_reducible rfl) | go_simp) (unhide HOn) _ A l.length c _ (by first | (with_reducible rfl) | go_simp) (unhide HRn).v (by simp) oneCell_Bv (by simp only [maxLen]; omega) (by omega) (by simp) ?_
       intro A2 c2 w2 hown2 hg2 hat2 hbel2 hcc2
       rw [Nat.zero_add, List.nil_append] at hown2; rw [Nat.zero_add] at hcc2 ⊢
       have hb2 : Below w.heap.size w w2 := ((Below.refl _ w).alloc (Nat.le_refl _) (.cells #[] 5)).drew.trans hbel2
       have hd2 := (unhide HD).new hb2
       have HO2 := hide hown2; have HB2 := hide hb2; have HD2 := hide hd2; have fc2 : w2.cell? ⟨q, 0, none⟩ = some (.slice d.A d.row.length d.c) := hd2.hdr0
       have fd2 : (w2.alloc (.cells #[.int .i64 f, .int .i64 t, .slice A2 l.length c2, .bool false] 68)).cell? ⟨q, 0, none⟩ = some (.slice d.A d.row.length d.c) := (hd2.blk.alloc _).cell 0
       have HS2 : Hid ((w2.alloc (.cells #[.int .i64 f, .int .i64 t, .slice A2 l.length c2, .bool false] 68)).ownsRow B 68 4 (.slice d.A d.row.length d.c) d.row.length (dCells d.row)) := hide (hd2.row.alloc _)
       have hs2 := hb2.size; have hql2 : q < w2.heap.size := hd2.blk.lt; clear hown2 hg2 hat2 hbel2 hb2 hd2)
    | (refine step_append_any _ rfl (.tmp 29) (.tmp 36) _ rfl B 68 j0 _ 4 48 Try.underlying42 hj hy0 hy1 hy2 rfl (by omega) (.slice d.A d.row.length d.c) d.row.length _ (by first | (with_reducible rfl) | go_simp) (unhide HS2) _ (some ⟨w2.heap.size, 0, none⟩) 1 1 _ (by first | (with_reducible rfl) | go_simp) (RdV.of_own (base := 0) (size := 4) (World.ownsRow_lit w2 #[.int .i64 f, .int .i64 t, .slice A2 l.length c2, .bool false] 1 (Nat.zero_le _) (by simp [maxLen]) rfl)) rfl (by intro u hu; simp at hu; rcases hu with rfl | rfl | rfl | rfl <;> rfl) (by simp only [maxLen]; omega) (by omega) (by simp; omega) ?_
       intro A4 c4 w4 hown4 hg4 hat4 hbel4 hcc4
       have HST := hide (DStep.push (DStep.of_new (unhide HD) (unhide HB2)) hB (x := ((f, t), ((l, A2, c2), false))) (unhide HO2) hl hown4 hg4 hat4)
       have hqr : some q ≠ (dhdr d).ownBlock := (fun e => by obtain ⟨cur, hb⟩ := own_blk (unhide HD).row e.symm; exact absurd (blk_type (unhide HD).blk hb) (by decide))
       have hq4 := ((unhide HD2).blk.alloc (.cells #[.int .i64 f, .int .i64 t, .slice A2 l.length c2, .bool false] 68)).grown hg4 hqr
       have fc4 : w4.cell? ⟨q, 0, none⟩ = some (.slice d.A d.row.length d.c) := hq4.cell 0
       have fz4 := hq4.frozen 0; clear hown4 hg4 hat4 hbel4 hq4))
  all_goals go_wp2_with fail
  all_goals
    go_ret
    exact ⟨rfl, A4, c4, A2, c2, unhide HST⟩
theorem ret_dpk {R : Ending → World → Prop} {a : Act} {w : World} {fn : Func} {p u : Tmp} (h : fn.results = #[.cell p 68, .tmp u]) (g : Nat) (cs : Array Value) (hs : cs.size = 4)
    (hp : a.tmps.getD p undef = .pointer (some ⟨g, 0, none⟩)) (hb : Blk w g 68 cs) (hdf : a.defers = []) (hR : R (.returned (.tuple #[.agg cs, a.tmps.getD u undef])) w) : bodyPost Try.prog fn R .ret a w :=
  bodyPost_ret (v := .tuple #[.agg cs, a.tmps.getD u undef]) (by
    rw [results_cell_tmp h, hp]
    simp [asAddr, run_loadVar_row _ _ 68 68 cs (0, 0) _ hb Try.underlying68 rfl (by rw [hs]; kernel_rfl)]) hdf hR
abbrev dzero : Array Value := #[.int .i64 0, .int .i64 0, .slice none 0 0, .bool false]
def DErr (w : World) (er : Int) (e : Ending) (w' : World) : Prop := e = .returned (.tuple #[.agg #[.int .i64 0, .int .i64 0, .slice none 0 0, .bool false], .int .i64 er]) ∧ Below w.heap.size w w'
set_option maxHeartbeats 1000000 in
theorem dlook_bad (q : Nat) (f t i er : Int) (w : World) (hf : Calls Try.prog 38 #[.pointer (some ⟨q, 0, none⟩), .int .i64 f, .int .i64 t, .int .i64 i] (w.alloc (.cells #[.int .i64 0, .int .i64 0, .slice none 0 0, .bool false] 68)) fun e w' => e = .returned (.tuple #[.int .i64 0, .int .i64 er]) ∧ (w.alloc (.cells #[.int .i64 0, .int .i64 0, .slice none 0 0, .bool false] 68)) = w') (he : er ≠ 0) :
    Calls Try.prog 36 #[.pointer (some ⟨q, 0, none⟩), .int .i64 f, .int .i64 t, .int .i64 i] w (DErr w er) := by
  have HM0 := hide ((Mem.start w).new (t := 68) (cs := #[.int .i64 0, .int .i64 0, .slice none 0 0, .bool false]) w.heap.size rfl)
  have HF := hide hf
  have f1 : (er == 0) = false := beq_eq_false_iff_ne.2 he
  have f2 : (er != 0) = true := by simp [he]
  clear hf he
  go_enter Try.func36, Try.ntmps36
  go_wp2_with (first
    | (go_at_call 38; refine (unhide HF).mono ?_; rintro _ w2 ⟨rfl, rfl⟩)
    | (refine wpList_store_blk rfl 68 (.tmp 8) (.tmp 23) rfl (w.heap.size) _ (by rfl) (by rfl) 68 _ (unhide HM0).blk0 (by kernel_rfl) (by rfl) (by simp [Value.oneCell']) ?_; intro w3 hbS hgS; have HM3 := hide ((unhide HM0).grown0 hbS hgS); have HGw3 := hide hgS; clear hbS hgS))
  exact ret_dpk rfl w.heap.size _ rfl rfl (unhide HM3).blk0 rfl ⟨rfl, (unhide HM3).below⟩
def DLooked (w : World) (x : DP) (e : Ending) (w' : World) : Prop := ∃ A2 c2, e = .returned (.tuple #[.agg #[.int .i64 x.1.1, .int .i64 x.1.2, .slice A2 x.2.1.1.length c2, .bool x.2.2], .int .i64 0]) ∧ NewRow w w' x.2.1.1 A2 c2
set_option maxHeartbeats 2000000 in
set_option maxRecDepth 20000 in
theorem dlook_yes (B q : Nat) (d : DS) (f t : Int) (pre post : List DP) (x : DP) (w : World) (h : DocAt w B q d) (hB : B ≤ w.heap.size) (hs : d.row.length ≤ 100000) (hr : Rt f t) (he : d.row = pre ++ x :: post) (hx : x.1 = (f, t)) :
    Calls Try.prog 36 #[.pointer (some ⟨q, 0, none⟩), .int .i64 f, .int .i64 t, .int .i64 ((way f t pre).length : Int)] w (DLooked w x) := by
  obtain ⟨i0, hi, hz0, hz1, hz2⟩ := info_parts u8info
  have hlen : d.row.length = pre.length + 1 + post.length := by rw [he]; simp; omega
  have hxi : d.row[pre.length]? = some x := by rw [he, List.getElem?_append_right (Nat.le_refl _), Nat.sub_self]; rfl
  have hmem : x ∈ d.row := by rw [he]; simp
  have hal : Below w.heap.size w (w.alloc (.cells #[.int .i64 0, .int .i64 0, .slice none 0 0, .bool false] 68)) := (Below.refl _ _).alloc (Nat.le_refl _) _
  have HM0 := hide ((Mem.start w).new (t := 68) (cs := #[.int .i64 0, .int .i64 0, .slice none 0 0, .bool false]) w.heap.size rfl)
  have hd1 := h.new hal
  obtain ⟨w1, hw1⟩ : ∃ u, w.alloc (.cells #[.int .i64 0, .int .i64 0, .slice none 0 0, .bool false] 68) = u := ⟨_, rfl⟩
  rw [hw1] at HM0 hd1 hal
  have HF := hide (find_yes B q d f t pre post x w1 hd1 hs hr he hx)
  obtain ⟨g, hA⟩ := h.lies (by omega)
  have fc : w1.cell? ⟨q, 0, none⟩ = some (.slice (some ⟨g, 0, none⟩) d.row.length d.c) := by rw [hd1.hdr0, hA]
  have fe := hd1.elem hA hxi
  have HB := hide (hd1.body x hmem)
  have hsm := h.small x hmem
  have hpl : (pre.length : Int) < (d.row.length : Int) := by omega
  have hpl0 : (0 : Int) ≤ (pre.length : Int) := by omega
  have HM1 := hide ((unhide HM0).new (t := 68) (cs := #[.int .i64 0, .int .i64 0, .slice none 0 0, .bool false]) w1.heap.size rfl)
  obtain ⟨⟨xf, xt⟩, ⟨⟨l, Al, cl⟩, sp⟩⟩ := x
  dsimp only at fe HB hsm
  clear h hd1 hal hr he hx hmem hxi hA
  go_enter Try.func36, Try.ntmps36
  go_upto_region 5 with (first
    | (go_at_call 38; refine (unhide HF).mono ?_; rintro _ w2 ⟨rfl, rfl⟩)
    | (refine wpList_store_blk rfl 68 (.tmp 12) (.tmp 31) rfl (w1.heap.size) _ (by rfl) (by rfl) 68 _ (unhide HM1).blk0 (by kernel_rfl) (by rfl) (by simp [Value.oneCell']) ?_; intro w2 hbS hgS; have HM2 := hide ((unhide HM1).grown0 hbS hgS); have HGw2 := hide hgS; clear hbS hgS))
  clear fe fc
  have fp2 : (w2.alloc (.cells #[] 5)).cell? ⟨w1.heap.size, 2, none⟩ = some (.slice Al l.length cl) := ((unhide HM2).blk0.alloc _).cell 2
  have HRn : Hid (RdB (w2.alloc (.cells #[] 5)) w1.heap.size Al l) := hide (by
    have h1 := own_only (unhide HB) ((Only.of_new (S := fun _ => False) ((Below.refl w1.heap.size w1).alloc (Nat.le_refl _) (.cells #[.int .i64 0, .int .i64 0, .slice none 0 0, .bool false] 68)))) (fun _ _ h => h)
    have h2 := h1.kept (unhide HGw2) (.inr fun e => Nat.lt_irrefl _ ((unhide HB).lt _ e).2)
    have h3 := (RdB.of_own (h2.alloc (.cells #[] 5)))
    intro hp
    obtain ⟨ad, e, hlt, hc⟩ := h3 hp
    refine ⟨ad, e, ?_, hc⟩
    subst e
    exact ((unhide HB).lt ad.block rfl).2)
  have HOn := hide (own_new w2 w2.heap.size #[] 5 0 [] (Nat.le_refl _) (by simp [maxLen]) rfl rfl)
  have HMx := hide ((unhide HM2).other (.cells #[] 5))
  go_wp2_with (first
    | (at_builtin
       refine wpList_append_any _ rfl (.tmp 32) (.tmp 34) _ rfl w2.heap.size 5 i0 _ 1 1 Try.underlying31 hi hz0 hz1 hz2 rfl (by omega) _ 0 [] rfl
         (unhide HOn) _ Al l.length cl _ rfl (unhide HRn).v (by simp) oneCell_Bv (by simp only [maxLen]; omega) (by omega) (by simp) ?_
       intro A4 c4 w4 hown4 hg4 hat4 hbel4 hcc4
       rw [Nat.zero_add, List.nil_append] at hown4; rw [Nat.zero_add] at hcc4 ⊢
       have hb24 : Below w2.heap.size w2 w4 := ((Below.refl _ w2).alloc (Nat.le_refl _) (.cells #[] 5)).trans hbel4
       have HM4 := hide ((unhide HM2).called hb24)
       have fz4 := (unhide HM4).blk0.frozen 2; have fq4 := (unhide HM4).blk0.cell 2
       have HO4 := hide hown4; have HM5 := hide (((unhide HM4).set0 (i := 2) (v := .slice A4 l.length c4)).as0 (cs' := #[.int .i64 xf, .int .i64 xt, .slice A4 l.length c4, .bool sp]) (by rfl)); clear hown4 hg4 hat4 hbel4 hb24)
    | (refine wpList_load_blk rfl 68 (.tmp 12) rfl (w1.heap.size) rfl 68 _ _ ((unhide HM5).blk0) Try.underlying68 rfl (by kernel_rfl) ?_)
    | (refine wpList_store_blk rfl 68 (.tmp 8) (.tmp 37) rfl (w.heap.size) _ (by rfl) (by rfl) 68 _ (unhide HM5).blk1 (by kernel_rfl) (by rfl) (by simp [Value.oneCell']) ?_; intro w6 hbS hgS; have HM6 := hide ((unhide HM5).grown1 hbS hgS); have HGw6 := hide hgS; clear hbS hgS))
  have hlt1 := (unhide HM2).blk0.lt
  have hlt0 := (unhide HM2).blk1.lt
  have hs2 := (unhide HM2).size
  have hne : ∀ k, (Value.slice A4 l.length c4).ownBlock = some k → w2.heap.size ≤ k := fun k hk => ((unhide HO4).lt k hk).1
  have ho6 := (ownsRow_setCell_other (unhide HO4) (a := ⟨w1.heap.size, 2, none⟩) (fun e => Nat.lt_irrefl _ (Nat.lt_of_lt_of_le hlt1 (hne _ e))) (.slice A4 l.length c4)).kept (unhide HGw6) (.inr fun e => Nat.lt_irrefl _ (Nat.lt_of_lt_of_le hlt0 (hne _ e)))
  exact ret_dpk rfl w.heap.size _ rfl rfl (unhide HM6).blk1 rfl ⟨A4, c4, rfl, own_more ho6 (fun k hk => by have := hne k hk; omega), (unhide HM6).below⟩
end Go.Proofs.Ytbclfiollfagmaa
