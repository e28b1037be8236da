/- The document's net: Spoil. -/
import Derived.Test.YtbclfiollfagmaaNetRefMoves
namespace Go.Proofs.Ytbclfiollfagmaa
set_option linter.unusedVariables false
open Go.RowKit

def setsL : List Value → Nat → List Value → List Value
  | xs, _, [] => xs
  | xs, o, v :: r => setsL (xs.set o v) (o + 1) r
theorem own_setCells {base g n cap size : Nat} {e : TypeId} : ∀ (vs : List Value) (o : Nat) (w : World) (xs : List Value), w.ownsRow base e size (.slice (some ⟨g, 0, none⟩) n cap) n xs → o + vs.length ≤ n * size → (w.setCells g o vs).ownsRow base e size (.slice (some ⟨g, 0, none⟩) n cap) n (setsL xs o vs)
  | [], _, _, _, h, _ => h
  | v :: r, o, w, xs, h, ho => own_setCells r (o + 1) _ _ (own_setAt h (by simp at ho; omega) v) (by simp at ho; omega)
theorem onlySetCells {S : Nat → Prop} {g : Nat} (hg : S g) : ∀ (vs : List Value) (o : Nat) (w : World), Only S w (w.setCells g o vs)
  | [], _, w => Only.refl S w
  | v :: r, o, w => (Only.setCell (S := S) (p := ⟨g, o, none⟩) (Only.refl S w) hg v).trans (onlySetCells hg r (o + 1) _)
theorem sets4 (a b c d e f g h : Value) (S : List Value) : ∀ P : List Value, ((((P ++ a :: b :: c :: d :: S).set P.length e).set (P.length + 1) f).set (P.length + 1 + 1) g).set (P.length + 1 + 1 + 1) h = P ++ e :: f :: g :: h :: S
  | [] => rfl
  | x :: P => by simp
theorem dCells_put (pre post : List DP) (x y : DP) : setsL (dCells (pre ++ x :: post)) (pre.length * 4) (dcell y) = dCells (pre ++ y :: post) := by
  have e1 : ∀ z : DP, dCells (pre ++ z :: post) = dCells pre ++ (.int .i64 z.1.1 :: .int .i64 z.1.2 :: bv z.2.1 :: .bool z.2.2 :: dCells post) := fun z => by
    rw [dCells_app]
    rfl
  rw [e1, e1, ← dCells_len]
  exact sets4 _ _ _ _ _ _ _ _ _ _
theorem Mem.far {W w : World} {L : Known} {g i : Nat} {v : Value} (h : Mem W w L) (hB : W.heap.size ≤ g) (hne : ∀ p ∈ L, p.1 ≠ g) : Mem W (w.setCell ⟨g, i, none⟩ v) L :=
  ⟨h.below.setCell hB _, fun p hp => (h.blk p hp).far (hne p hp) _, h.ge, h.apart⟩
theorem dspoil_bad (q : Nat) (f t i at_ : Int) (m : UInt8) (er : Int) (w : World) (hl : Calls Try.prog 38 #[.pointer (some ⟨q, 0, none⟩), .int .i64 f, .int .i64 t, .int .i64 i] w fun e w' => e = .returned (.tuple #[.int .i64 0, .int .i64 er]) ∧ w = w') (he : er ≠ 0) :
    Calls Try.prog 35 #[.pointer (some ⟨q, 0, none⟩), .int .i64 f, .int .i64 t, .int .i64 i, .int .i64 at_, Bv m] w fun e w' => e = .returned (.int .i64 er) ∧ w = w' := by
  have HL := hide hl
  have f1 : (er == 0) = false := beq_eq_false_iff_ne.2 he
  have f2 : (er != 0) = true := by simp [he]
  clear hl he
  unfold Bv
  go_enter Try.func35, Try.ntmps35
  go_wp2_with (go_at_call 38; refine (unhide HL).mono ?_; rintro _ w2 ⟨rfl, rfl⟩)
  go_ret
  exact ⟨rfl, rfl⟩
set_option maxHeartbeats 1000000 in
set_option maxRecDepth 20000 in
theorem dspoil_arg (B q : Nat) (d : DS) (f t : Int) (pre post : List DP) (x : DP) (at_ : Int) (m : UInt8) (w : World) (h : DocAt w B q d) (hB : B ≤ w.heap.size) (hs : d.row.length ≤ 100000) (hr : Rt f t) (he : d.row = pre ++ x :: post) (hx : x.1 = (f, t)) (hbad : at_ < 0 ∨ (x.2.1.1.length : Int) ≤ at_ ∨ m = 0) :
    Calls Try.prog 35 #[.pointer (some ⟨q, 0, none⟩), .int .i64 f, .int .i64 t, .int .i64 ((way f t pre).length : Int), .int .i64 at_, Bv m] w (ErrN w 1) := by
  have hlen : d.row.length = pre.length + 1 + post.length := by rw [he]; simp; omega
  have hxi : d.row[pre.length]? = some x := by rw [he, List.getElem?_append_right (Nat.le_refl _), Nat.sub_self]; rfl
  have HF := hide (find_yes B q d f t pre post x w h hs hr he hx)
  obtain ⟨g, hA⟩ := h.lies (by omega)
  have fc : w.cell? ⟨q, 0, none⟩ = some (.slice (some ⟨g, 0, none⟩) d.row.length d.c) := by rw [h.hdr0, hA]
  have fe := h.elem hA hxi
  have hpl : (pre.length : Int) < (d.row.length : Int) := by omega
  have hpl0 : (0 : Int) ≤ (pre.length : Int) := by omega
  have HM1 := hide ((Mem.start w).new (t := 68) (cs := #[.int .i64 0, .int .i64 0, .slice none 0 0, .bool false]) w.heap.size rfl)
  clear h hr he hx hxi hA
  unfold Bv
  by_cases q1 : at_ < 0
  · have f1 : decide (at_ < 0) = true := decide_eq_true q1
    clear hbad
    go_enter Try.func35, Try.ntmps35
    go_wp2_with (first
      | (go_at_call 38; refine (unhide HF).mono ?_; rintro _ w2 ⟨rfl, rfl⟩)
      | (refine wpList_store_blk rfl 68 (.tmp 15) (.tmp 34) rfl (w.heap.size) _ (by rfl) (by rfl) 68 _ (unhide HM1).blk0 (by kernel_rfl) (by rfl) (by simp [Value.oneCell']) ?_; intro w2 hbS hgS; have HM2 := hide ((unhide HM1).grown0 hbS hgS); have HGw2 := hide hgS; clear hbS hgS
         have fp := dpkAt (unhide HM2).blk0))
    go_ret
    exact ⟨rfl, (unhide HM2).below⟩
  · have f1 : decide (at_ < 0) = false := decide_eq_false q1
    by_cases q2 : (x.2.1.1.length : Int) ≤ at_
    · have f2 : decide ((x.2.1.1.length : Int) ≤ at_) = true := decide_eq_true q2
      clear hbad
      go_enter Try.func35, Try.ntmps35
      go_wp2_with (first
        | (go_at_call 38; refine (unhide HF).mono ?_; rintro _ w2 ⟨rfl, rfl⟩)
        | (refine wpList_store_blk rfl 68 (.tmp 15) (.tmp 34) rfl (w.heap.size) _ (by rfl) (by rfl) 68 _ (unhide HM1).blk0 (by kernel_rfl) (by rfl) (by simp [Value.oneCell']) ?_; intro w2 hbS hgS; have HM2 := hide ((unhide HM1).grown0 hbS hgS); have HGw2 := hide hgS; clear hbS hgS
           have fp := dpkAt (unhide HM2).blk0))
      go_ret
      exact ⟨rfl, (unhide HM2).below⟩
    · have f2 : decide ((x.2.1.1.length : Int) ≤ at_) = false := decide_eq_false q2
      have q3 : m = 0 := by rcases hbad with h | h | h <;> first | omega | exact h
      subst q3
      have f3 : ((UInt8.toNat 0 : Nat) : Int) = 0 := rfl
      clear hbad
      go_enter Try.func35, Try.ntmps35
      go_wp2_with (first
        | (go_at_call 38; refine (unhide HF).mono ?_; rintro _ w2 ⟨rfl, rfl⟩)
        | (refine wpList_store_blk rfl 68 (.tmp 15) (.tmp 34) rfl (w.heap.size) _ (by rfl) (by rfl) 68 _ (unhide HM1).blk0 (by kernel_rfl) (by rfl) (by simp [Value.oneCell']) ?_; intro w2 hbS hgS; have HM2 := hide ((unhide HM1).grown0 hbS hgS); have HGw2 := hide hgS; clear hbS hgS
           have fp := dpkAt (unhide HM2).blk0))
      go_ret
      exact ⟨rfl, (unhide HM2).below⟩
set_option maxHeartbeats 1000000 in
set_option maxRecDepth 20000 in
theorem dspoil_there (B q : Nat) (d : DS) (f t : Int) (pre post : List DP) (x : DP) (at_ : Nat) (m : UInt8) (w : World) (h : DocAt w B q d) (hB : B ≤ w.heap.size) (hs : d.row.length ≤ 100000) (hr : Rt f t) (he : d.row = pre ++ x :: post) (hx : x.1 = (f, t)) (h1 : at_ < x.2.1.1.length) (h2 : m ≠ 0) (h3 : x.2.2 = true) :
    Calls Try.prog 35 #[.pointer (some ⟨q, 0, none⟩), .int .i64 f, .int .i64 t, .int .i64 ((way f t pre).length : Int), .int .i64 (at_ : Int), Bv m] w (ErrN w 8) := by
  have hlen : d.row.length = pre.length + 1 + post.length := by rw [he]; simp; omega
  have hxi : d.row[pre.length]? = some x := by rw [he, List.getElem?_append_right (Nat.le_refl _), Nat.sub_self]; rfl
  have HF := hide (find_yes B q d f t pre post x w h hs hr he hx)
  obtain ⟨g, hA⟩ := h.lies (by omega)
  have fc : w.cell? ⟨q, 0, none⟩ = some (.slice (some ⟨g, 0, none⟩) d.row.length d.c) := by rw [h.hdr0, hA]
  have fe := h.elem hA hxi
  have hpl : (pre.length : Int) < (d.row.length : Int) := by omega
  have hpl0 : (0 : Int) ≤ (pre.length : Int) := by omega
  have HM1 := hide ((Mem.start w).new (t := 68) (cs := #[.int .i64 0, .int .i64 0, .slice none 0 0, .bool false]) w.heap.size rfl)
  rw [h3] at fe
  clear h hr he hx hxi hA h3
  unfold Bv
  have f1 : decide ((at_ : Int) < 0) = false := decide_eq_false (by omega)
  have f2 : decide ((x.2.1.1.length : Int) ≤ (at_ : Int)) = false := decide_eq_false (by omega)
  have f2' : decide (x.2.1.1.length ≤ at_) = false := decide_eq_false (by omega)
  have f3 : ((m.toNat : Int) == 0) = false := beq_eq_false_iff_ne.2 (fun e => h2 (UInt8.toNat_inj.1 (by simpa using e)))
  go_enter Try.func35, Try.ntmps35
  go_wp2_with (first
    | (go_at_call 38; refine (unhide HF).mono ?_; rintro _ w2 ⟨rfl, rfl⟩)
    | (refine wpList_store_blk rfl 68 (.tmp 15) (.tmp 34) rfl (w.heap.size) _ (by rfl) (by rfl) 68 _ (unhide HM1).blk0 (by kernel_rfl) (by rfl) (by simp [Value.oneCell']) ?_; intro w2 hbS hgS; have HM2 := hide ((unhide HM1).grown0 hbS hgS); have HGw2 := hide hgS; clear hbS hgS
       have fp := dpkAt (unhide HM2).blk0))
  go_ret
  exact ⟨rfl, (unhide HM2).below⟩
def DSpoilt (w : World) (B q : Nat) (d : DS) (pre post : List DP) (x : DP) (l' : List UInt8) (e : Ending) (w' : World) : Prop := e = .returned (.int .i64 0) ∧ ∃ A5 c5 A4 c4, DStep w w' B q d ⟨A5, c5, pre ++ (x.1, ((l', A4, c4), true)) :: post, d.lost⟩
set_option maxHeartbeats 4000000 in
set_option maxRecDepth 20000 in
theorem dspoil_ok (B q : Nat) (d : DS) (f t : Int) (pre post : List DP) (x : DP) (at_ : Nat) (m : UInt8) (w : World) (h : DocAt w B q d) (hB : B ≤ w.heap.size) (hs : d.row.length ≤ 100000) (hr : Rt f t) (he : d.row = pre ++ x :: post) (hx : x.1 = (f, t)) (h1 : at_ < x.2.1.1.length) (h2 : m ≠ 0) (h3 : x.2.2 = false) :
    Calls Try.prog 35 #[.pointer (some ⟨q, 0, none⟩), .int .i64 f, .int .i64 t, .int .i64 ((way f t pre).length : Int), .int .i64 (at_ : Int), Bv m] w (DSpoilt w B q d pre post x (x.2.1.1.set at_ (x.2.1.1[at_]! ^^^ m))) := by
  obtain ⟨i0, hi, hz0, hz1, hz2⟩ := info_parts u8info
  obtain ⟨j0, hj, hy0, hy1, hy2⟩ := info_parts dpkinfo
  have hlen : d.row.length = pre.length + 1 + post.length := by rw [he]; simp; omega
  have hxi : d.row[pre.length]? = some x := by rw [he, List.getElem?_append_right (Nat.le_refl _), Nat.sub_self]; rfl
  have HF := hide (find_yes B q d f t pre post x w h hs hr he hx)
  obtain ⟨g, hA⟩ := h.lies (by omega)
  have fc : w.cell? ⟨q, 0, none⟩ = some (.slice (some ⟨g, 0, none⟩) d.row.length d.c) := by rw [h.hdr0, hA]
  have fe := h.elem hA hxi
  have hpl : (pre.length : Int) < (d.row.length : Int) := by omega
  have hpl0 : (0 : Int) ≤ (pre.length : Int) := by omega
  have HM1 := hide ((Mem.start w).new (t := 68) (cs := #[.int .i64 0, .int .i64 0, .slice none 0 0, .bool false]) w.heap.size rfl)
  rw [h3] at fe
  have hmem : x ∈ d.row := by rw [he]; simp
  have HD := hide h
  have HB := hide (h.body x hmem)
  have hsm := h.small x hmem
  have HE := hide he
  have hrow := h.row
  rw [dhdr, hA] at hrow
  have HRW : Hid (∀ u : World, Below w.heap.size w u → RdV u w.heap.size (some ⟨g, 0, none⟩) (dCells d.row)) := hide (fun u hu => (RdV.of_own hrow).below hu)
  have fcq : Hid (∀ u : World, Below w.heap.size w u → u.cell? ⟨q, 0, none⟩ = some (.slice (some ⟨g, 0, none⟩) d.row.length d.c)) := hide (fun u hu => by rw [(h.new hu).hdr0, hA])
  have hql := h.blk.lt
  obtain ⟨⟨xf, xt⟩, ⟨⟨l, Al, cl⟩, sp⟩⟩ := x
  dsimp only at fe HB hsm h1 h3
  have eg : l[at_]! = l[at_] := getElem!_pos l at_ h1
  have HX := hide (xor_u8 l[at_] m)
  have HEG := hide eg
  clear h hr he hx hxi hA h3 hmem hrow eg
  show Calls _ _ #[_, _, _, _, _, .int .u8 (m.toNat : Int)] _ _
  have f1 : decide ((at_ : Int) < 0) = false := decide_eq_false (by omega)
  have f2 : decide ((l.length : Int) ≤ (at_ : Int)) = false := decide_eq_false (by omega)
  have f2' : decide (l.length ≤ at_) = false := decide_eq_false (by omega)
  have f3 : ((m.toNat : Int) == 0) = false := beq_eq_false_iff_ne.2 (fun e => h2 (UInt8.toNat_inj.1 (by simpa using e)))
  have hj4 : (0 : Int) ≤ (at_ : Int) := by omega
  have hj5 : (at_ : Int) < (l.length : Int) := by omega
  go_enter Try.func35, Try.ntmps35
  go_upto_region 9 with (first
    | (go_at_call 38; refine (unhide HF).mono ?_; rintro _ w2 ⟨rfl, rfl⟩)
    | (refine wpList_store_blk rfl 68 (.tmp 15) (.tmp 34) rfl (w.heap.size) _ (by rfl) (by rfl) 68 _ (unhide HM1).blk0 (by kernel_rfl) (by rfl) (by simp [Value.oneCell']) ?_; intro w2 hbS hgS; have HM2 := hide ((unhide HM1).grown0 hbS hgS); have HGw2 := hide hgS; clear hbS hgS
       have fp := dpkAt (unhide HM2).blk0))
  clear fe fc fp
  have fp2 : (w2.alloc (.cells #[] 5)).cell? ⟨w.heap.size, 2, none⟩ = some (.slice Al l.length cl) := ((unhide HM2).blk0.alloc _).cell 2
  have HRn : Hid (RdB (w2.alloc (.cells #[] 5)) w.heap.size Al l) := hide ((RdB.of_own (unhide HB)).below ((unhide HM2).below.alloc (unhide HM2).size _))
  have HOn := hide (own_new w2 w2.heap.size #[] 5 0 [] (Nat.le_refl _) (by simp [maxLen]) rfl rfl)
  go_upto_region 10 with (
       at_builtin
       refine wpList_append_any _ rfl (.tmp 50) (.tmp 52) _ rfl w2.heap.size 5 i0 _ 1 1 Try.underlying31 hi hz0 hz1 hz2 rfl (by omega) _ 0 [] rfl
         (unhide HOn) _ Al l.length cl _ rfl (unhide HRn).v (by simp) oneCell_Bv (by simp only [maxLen]; omega) (by omega) (by simp) ?_
       intro A4 c4 w4 hown4 hg4 hat4 hbel4 hcc4
       rw [Nat.zero_add, List.nil_append] at hown4; rw [Nat.zero_add] at hcc4 ⊢
       have hb24 : Below w2.heap.size w2 w4 := ((Below.refl _ w2).alloc (Nat.le_refl _) (.cells #[] 5)).trans hbel4
       have HM4 := hide ((unhide HM2).called hb24)
       have fz4 := (unhide HM4).blk0.frozen 2; have fq4 := (unhide HM4).blk0.cell 2
       have HO4 := hide hown4; have HM5 := hide (((unhide HM4).set0 (i := 2) (v := .slice A4 l.length c4)).as0 (cs' := #[.int .i64 xf, .int .i64 xt, .slice A4 l.length c4, .bool false]) (by rfl)); clear hown4 hg4 hat4 hbel4 hb24)
  obtain ⟨w5, hw5⟩ : ∃ u, w4.setCell ⟨w.heap.size, 2, none⟩ (.slice A4 l.length c4) = u := ⟨_, rfl⟩
  have hlt0 := (unhide HM2).blk0.lt
  have hne4 : ∀ k, (Value.slice A4 l.length c4).ownBlock = some k → w2.heap.size ≤ k := fun k hk => ((unhide HO4).lt k hk).1
  have ho5 := ownsRow_setCell_other (unhide HO4) (a := ⟨w.heap.size, 2, none⟩) (fun e => Nat.lt_irrefl _ (Nat.lt_of_lt_of_le hlt0 (hne4 _ e))) (.slice A4 l.length c4)
  rw [hw5] at ho5 HM5
  simp only [hw5]
  obtain ⟨g4, cap4, hv4, hb4, hl4⟩ := ho5.form (by omega)
  obtain rfl : A4 = some ⟨g4, 0, none⟩ := by injection hv4
  have HO5 := hide ho5
  have cy : w5.cell? ⟨g4, at_, none⟩ = some (.int .u8 ((l[at_]).toNat : Int)) := (ho5.cellAt at_ (by omega)).trans (by rw [List.getElem?_map, List.getElem?_eq_getElem h1]; rfl)
  obtain ⟨cur4, hk4⟩ := own_blk ho5 rfl
  have z1 := hk4.frozen at_
  have fp5 := dpkAt (unhide HM5).blk0
  clear fz4 fq4 ho5 hk4 hv4 hne4 fp2
  have hgw : w.heap.size < g4 := Nat.lt_of_lt_of_le hlt0 hb4
  go_region_law fail
  all_goals
    have hxo := unhide HX
    have HM6 := hide ((((unhide HM5).far (g := g4) (i := at_) (v := .int .u8 (bits BinOp.xor IntKind.u8 ((l[at_]).toNat : Int) (m.toNat : Int))) (Nat.le_of_lt hgw) (by
      intro q' hq'
      simp only [List.mem_cons, List.not_mem_nil, or_false] at hq'
      subst hq'
      exact Nat.ne_of_lt hgw)).drew))
    have ho6 : (w5.setCell ⟨g4, at_, none⟩ (.int .u8 (bits BinOp.xor IntKind.u8 ((l[at_]).toNat : Int) (m.toNat : Int)))).drew.ownsRow w2.heap.size 5 1 (.slice (some ⟨g4, 0, none⟩) l.length c4) l.length ((l.map Bv).set at_ (.int .u8 (bits BinOp.xor IntKind.u8 ((l[at_]).toNat : Int) (m.toNat : Int)))) := own_drewN (own_setAt (unhide HO5) (by omega) _) 1
    rw [hxo, show (Value.int .u8 (((l[at_] ^^^ m).toNat : Nat) : Int)) = Bv (l[at_] ^^^ m) from rfl, ← List.map_set] at ho6
    rw [hxo] at HM6 ⊢
    rw [show (Value.int .u8 (((l[at_] ^^^ m).toNat : Nat) : Int)) = Bv (l[at_] ^^^ m) from rfl] at HM6 ⊢
    obtain ⟨w6, hw6⟩ : ∃ u, (w5.setCell ⟨g4, at_, none⟩ (Bv (l[at_] ^^^ m))).drew = u := ⟨_, rfl⟩
    rw [hw6] at ho6 HM6 ⊢
    have HO6 := hide ho6
    have fq6 := (unhide HM6).blk0.cell 3
    have fz6 := (unhide HM6).blk0.frozen 3
    have HM7 := hide (((unhide HM6).set0 (i := 3) (v := .bool true)).as0 (cs' := #[.int .i64 xf, .int .i64 xt, .slice (some ⟨g4, 0, none⟩) l.length c4, .bool true]) (by rfl))
    have HO7 := hide (ownsRow_setCell_other ho6 (a := ⟨w.heap.size, 3, none⟩) (fun e => Nat.ne_of_lt hgw (Option.some.inj e).symm) (.bool true))
    clear ho6 cy z1 fp5 hw6
    go_upto_region 12 with fail
    obtain ⟨w7, hw7⟩ : ∃ u, w6.setCell ⟨w.heap.size, 3, none⟩ (.bool true) = u := ⟨_, rfl⟩
    rw [hw7] at HM7 HO7 ⊢
    clear fq6 fz6 hw7
    have hb7 := (unhide HM7).below
    have hs7 := (unhide HM7).size
    have hb7a : Below w.heap.size w (w7.alloc (.cells #[] 68)) := hb7.alloc hs7 _
    have fc7 := unhide fcq _ hb7a
    have HRA := hide (unhide HRW _ hb7a)
    have HOm : Hid ((w7.alloc (.cells #[] 68)).ownsRow w7.heap.size 68 4 (.slice (some ⟨w7.heap.size, 0, none⟩) 0 0) 0 []) := hide (World.ownsRow_lit w7 #[] 0 (Nat.le_refl _) (by simp [maxLen]) rfl)
    clear hb7 hb7a
    go_wp2_with (first
      | (at_builtin
         refine wpList_append_any _ rfl (.tmp 67) (.tmp 71) _ rfl w7.heap.size 68 j0 _ 4 48 Try.underlying42 hj hy0 hy1 hy2 rfl (by omega) _ 0 [] rfl
           (unhide HOm) _ (some ⟨g, 0, none⟩) (pre.length + 1 + post.length) d.c _ rfl (unhide HRA) (by rw [dCells_len, hlen]) (dCells_one _) (by simp only [maxLen]; omega) (by omega) (by simp) ?_
         intro A9 c9 w9 hown9 hg9 hat9 hbel9 hcc9
         rw [Nat.zero_add, List.nil_append] at hown9; rw [Nat.zero_add] at hcc9 ⊢
         have hb79 : Below w7.heap.size w7 w9 := ((Below.refl _ w7).alloc (Nat.le_refl _) (.cells #[] 68)).trans hbel9
         have HM9 := hide ((unhide HM7).called hb79); have HB79 := hide hb79
         obtain ⟨g9, cap9, hv9, hb9, hl9⟩ := hown9.form (by omega)
         obtain rfl : A9 = some ⟨g9, 0, none⟩ := (by injection hv9)
         have HO9 := hide hown9
         have fc9 := unhide fcq _ (unhide HM9).below
         rw [hlen] at fc9
         have HQ9 : Hid (¬ q = g9) := hide (by omega)
         have HTH : Hid (w9.there g9 (pre.length * 4) 4) := hide (fun j hj4 => by
           obtain ⟨cur, hk⟩ := own_blk hown9 rfl
           refine ⟨?_, hk.frozen _⟩
           rw [hown9.cellAt _ (show pre.length * 4 + j < _ by omega), List.getElem?_eq_getElem (by rw [dCells_len, hlen]; omega)]
           rfl)
         have HO9s := hide (own_setCells (#[.int .i64 xf, .int .i64 xt, .slice (some ⟨g4, 0, none⟩) l.length c4, .bool true] : Array Value).toList (pre.length * 4) w9 _ hown9 (by simp; omega))
         have HONs : Hid (Only (fun k => k = g9) w9 (w9.setCells g9 (pre.length * 4) (#[.int .i64 xf, .int .i64 xt, .slice (some ⟨g4, 0, none⟩) l.length c4, .bool true] : Array Value).toList)) := hide (onlySetCells (S := fun k => k = g9) rfl _ _ _)
         clear hown9 hg9 hat9 hbel9 hb79 hv9)
      | (refine wpList_load_blk rfl 68 (.tmp 15) rfl (w.heap.size) rfl 68 _ _ ((unhide HM9).blk0) Try.underlying68 rfl (by kernel_rfl) ?_)
      | (refine wpList_store_mid rfl 68 (.tmp 76) (.tmp 75) rfl g9 (pre.length * 4) #[.int .i64 xf, .int .i64 xt, .slice (some ⟨g4, 0, none⟩) l.length c4, .bool true] rfl rfl (unhide HTH) (by kernel_rfl) (by simp [Value.oneCell']) ?_
         obtain ⟨w10, hw10⟩ : ∃ u, w9.setCells g9 (pre.length * 4) (#[.int .i64 xf, .int .i64 xt, .slice (some ⟨g4, 0, none⟩) l.length c4, .bool true] : Array Value).toList = u := ⟨_, rfl⟩
         rw [hw10]
         have ho10 := (unhide HO9s); have hon := (unhide HONs)
         rw [hw10] at ho10 hon
         have HO10 := hide ho10; have HON := hide hon
         have hq10 := ((unhide HD).new (unhide HM9).below).blk.only hon (unhide HQ9)
         have fc10 : w10.cell? ⟨q, 0, none⟩ = some (.slice (some ⟨g, 0, none⟩) (pre.length + 1 + post.length) d.c) := (by rw [hon.cell (a := ⟨q, 0, none⟩) ((unhide HD).new (unhide HM9).below).blk.lt (unhide HQ9)]; exact fc9)
         have fz10 := hq10.frozen 0; have HQ10 := hide hq10
         clear ho10 hon hq10))
    go_ret
    have hm9 := (unhide HM9).below
    have hg9 := (unhide HO10).lt g9 rfl
    have hg4 := (unhide HO7).lt g4 rfl
    refine ⟨rfl, some ⟨g9, 0, none⟩, c9, some ⟨g4, 0, none⟩, c4, ?_⟩
    have hl2 : (pre ++ ((xf, xt), ((l.set at_ (l[at_] ^^^ m), some ⟨g4, 0, none⟩, c4), true)) :: post).length = pre.length + 1 + post.length := by simp; omega
    have h9 : Only (fun k => k = q ∨ (dhdr d).ownBlock = some k) w w10 := (Only.of_new hm9).trans' (unhide HON) (fun k e => .inr (by omega))
    have hrow' : w10.ownsRow w7.heap.size 68 4 (.slice (some ⟨g9, 0, none⟩) (pre.length + 1 + post.length) c9) (pre.length + 1 + post.length) (dCells (pre ++ ((xf, xt), ((l.set at_ (l[at_] ^^^ m), some ⟨g4, 0, none⟩, c4), true)) :: post)) := by
      rw [← dCells_put pre post ((xf, xt), ((l, Al, cl), sp)), ← unhide HE]
      have h := unhide HO10
      simp only [bv, dcell, List.length_set]
      exact h
    refine (unhide HD).to hB (Only.setCell (S := fun k => k = q ∨ (dhdr d).ownBlock = some k) (p := ⟨q, 0, none⟩) h9 (.inl rfl) _) ?_ ?_ (.inr ?_) ?_
    · have hk := (unhide HQ10).set_ 0 (.slice (some ⟨g9, 0, none⟩) (pre.length + 1 + post.length) c9)
      rw [dhdr, hl2]
      exact hk
    · rw [dhdr, hl2]
      exact own_more (ownsRow_setCell_other hrow' (fun e => by
        have e : g9 = q := Option.some.inj e
        omega) _) (fun k hk => by
        have e : g9 = k := Option.some.inj hk
        omega)
    · intro k hk
      rw [dhdr, hl2] at hk
      have e : g9 = k := Option.some.inj hk
      omega
    · intro y hy
      rcases List.mem_append.1 hy with hy | hy
      · exact .inl (by rw [unhide HE]; exact List.mem_append_left _ hy)
      · rcases List.mem_cons.1 hy with rfl | hy
        · refine .inr ⟨?_, by simpa using hsm⟩
          have a1 := own_only (unhide HO7) (Only.of_new (S := fun _ => False) (unhide HB79)) (fun _ _ h => h)
          have a2 := own_only a1 (unhide HON) (fun k hk e => by
            have e2 : g4 = k := Option.some.inj hk
            omega)
          have a3 := ownsRow_setCell_other a2 (a := ⟨q, 0, none⟩) (fun e => by
            have e : g4 = q := Option.some.inj e
            omega) (.slice (some ⟨g9, 0, none⟩) (pre.length + 1 + post.length) c9)
          show World.ownsRow _ _ _ _ (.slice (some ⟨g4, 0, none⟩) (l.set at_ (l[at_] ^^^ m)).length c4) (l.set at_ (l[at_] ^^^ m)).length _
          rw [List.length_set]
          exact own_more a3 (fun k hk => by
            have e : g4 = k := Option.some.inj hk
            omega)
        · exact .inl (by rw [unhide HE]; exact List.mem_append_right _ (List.mem_cons_of_mem _ hy))
end Go.Proofs.Ytbclfiollfagmaa
