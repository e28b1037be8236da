/- The document's net in memory; Len; find. -/
import Derived.Test.YtbclfiollfagmaaNetAwake
import Derived.Deep.MidRow
namespace Go.Proofs.Ytbclfiollfagmaa
set_option linter.unusedVariables false
open Go.RowKit

abbrev DP := (Int × Int) × Pk
structure DS where
  A : Option Addr
  c : Nat
  row : List DP
  lost : Int
def dcell (x : DP) : List Value := [.int .i64 x.1.1, .int .i64 x.1.2, bv x.2.1, .bool x.2.2]
def dCells (r : List DP) : List Value := r.flatMap dcell
theorem dCells_len : ∀ (r : List DP), (dCells r).length = r.length * 4
  | [] => rfl
  | x :: r => by
    have := dCells_len r
    simp only [dCells, dcell, List.flatMap_cons, List.length_append, List.length_cons, List.length_nil] at this ⊢
    omega
theorem dCells_app (a b : List DP) : dCells (a ++ b) = dCells a ++ dCells b := by simp [dCells]
theorem dCells_at : ∀ (r : List DP) (i j : Nat) (x : DP), r[i]? = some x → j < 4 → (dCells r)[i * 4 + j]? = (dcell x)[j]?
  | [], _, _, _, h, _ => by simp at h
  | y :: r, 0, j, x, h, hj => by
    simp at h
    subst h
    show (dcell y ++ dCells r)[0 * 4 + j]? = _
    rw [Nat.zero_mul, Nat.zero_add, List.getElem?_append_left (by simpa [dcell] using hj)]
  | y :: r, i + 1, j, x, h, hj => by
    have ih := dCells_at r i j x (by simpa using h) hj
    show (dcell y ++ dCells r)[(i + 1) * 4 + j]? = _
    rw [List.getElem?_append_right (by simp [dcell]; omega), ← ih]
    congr 1
    simp [dcell]
    omega
theorem dCells_one (r : List DP) : ∀ u ∈ dCells r, u.oneCell' = true := by
  intro u hu
  obtain ⟨x, _, hx⟩ := List.mem_flatMap.1 hu
  simp only [dcell, List.mem_cons, List.not_mem_nil, or_false] at hx
  rcases hx with rfl | rfl | rfl | rfl <;> rfl
theorem dCells_take (r : List DP) (n : Nat) : (dCells r).take (n * 4) = dCells (r.take n) := by
  rcases Nat.lt_or_ge n r.length with h | h
  · have e : dCells r = dCells (r.take n) ++ dCells (r.drop n) := by rw [← dCells_app, List.take_append_drop]
    rw [e, List.take_left' (by rw [dCells_len, List.length_take]; omega)]
  · rw [List.take_of_length_le h, List.take_of_length_le (by rw [dCells_len]; omega)]
theorem dCells_drop (r : List DP) (n : Nat) : (dCells r).drop (n * 4) = dCells (r.drop n) := by
  rcases Nat.lt_or_ge n r.length with h | h
  · have e : dCells r = dCells (r.take n) ++ dCells (r.drop n) := by rw [← dCells_app, List.take_append_drop]
    rw [e, List.drop_left' (by rw [dCells_len, List.length_take]; omega)]
  · rw [List.drop_eq_nil_of_le h, List.drop_eq_nil_of_le (by rw [dCells_len]; omega)]
    rfl
def dhdr (d : DS) : Value := .slice d.A d.row.length d.c
/-- a block of the document's net: its own, the row's, a packet's bytes -/
def DFoot (q : Nat) (d : DS) (g : Nat) : Prop := g = q ∨ (dhdr d).ownBlock = some g ∨ ∃ x ∈ d.row, (bv x.2.1).ownBlock = some g
structure DocAt (w : World) (B q : Nat) (d : DS) : Prop where
  blk : Blk w q 44 #[dhdr d, .int .i64 d.lost]
  row : w.ownsRow B 68 4 (dhdr d) d.row.length (dCells d.row)
  body : ∀ x ∈ d.row, w.ownsRow B 5 1 (bv x.2.1) x.2.1.1.length (x.2.1.1.map Bv)
  ge : B ≤ q
  small : ∀ x ∈ d.row, x.2.1.1.length ≤ 4096
structure DStep (w w' : World) (B q : Nat) (d d' : DS) : Prop where
  at_ : DocAt w' B q d'
  only : Only (DFoot q d) w w'
  foot : ∀ g, DFoot q d' g → DFoot q d g ∨ w.heap.size ≤ g
section
variable {w w1 w' : World} {B q : Nat} {d d1 d' : DS}
theorem DocAt.foot (h : DocAt w B q d) {g : Nat} (hg : DFoot q d g) : B ≤ g ∧ g < w.heap.size := by
  rcases hg with rfl | hg | ⟨x, hx, hg⟩
  · exact ⟨h.ge, h.blk.lt⟩
  · exact h.row.lt g hg
  · exact (h.body x hx).lt g hg
theorem DocAt.only {S : Nat → Prop} (h : DocAt w B q d) (ho : Only S w w') (hs : ∀ g, DFoot q d g → ¬ S g) : DocAt w' B q d :=
  ⟨h.blk.only ho (hs _ (.inl rfl)), own_only h.row ho fun g hg => hs g (.inr (.inl hg)), fun x hx => own_only (h.body x hx) ho fun g hg => hs g (.inr (.inr ⟨x, hx, hg⟩)), h.ge, h.small⟩
theorem DocAt.new (h : DocAt w B q d) (hb : Below w.heap.size w w') : DocAt w' B q d := h.only (S := fun _ => False) (Only.of_new hb) fun _ _ h => h
theorem DStep.refl (h : DocAt w B q d) : DStep w w B q d d := ⟨h, Only.refl _ _, fun g hg => .inl hg⟩
theorem DStep.of_new (h : DocAt w B q d) (hb : Below w.heap.size w w') : DStep w w' B q d d := ⟨h.new hb, Only.of_new hb, fun g hg => .inl hg⟩
theorem DStep.trans (h : DStep w w1 B q d d1) (k : DStep w1 w' B q d1 d') : DStep w w' B q d d' :=
  ⟨k.at_, h.only.trans' k.only h.foot, fun g hg => by
    rcases k.foot g hg with h1 | h1
    · exact h.foot g h1
    · exact .inr (Nat.le_trans h.only.size h1)⟩
theorem DStep.below (h : DStep w w' B q d d') (ha : DocAt w B q d) (hB : B ≤ w.heap.size) : Below B w w' := h.only.below hB fun g hg => (ha.foot hg).1
theorem DStep.beside {x : Nat} (h : DStep w w1 B q d d') (ho : Only (fun g => g = x) w1 w') (hx : w.heap.size ≤ x) (hnf : ¬ DFoot q d' x) : DStep w w' B q d d' :=
  ⟨h.at_.only ho fun g hg e => hnf (e ▸ hg), h.only.trans' ho fun g e => .inr (e ▸ hx), h.foot⟩
/-- the document's net is another: its row its own or new, its packets old or new -/
theorem DocAt.to (h : DocAt w B q d) (hB : B ≤ w.heap.size) (ho : Only (fun g => g = q ∨ (dhdr d).ownBlock = some g) w w') (hb : Blk w' q 44 #[dhdr d', .int .i64 d'.lost])
    (hr : w'.ownsRow B 68 4 (dhdr d') d'.row.length (dCells d'.row)) (hf : (dhdr d').ownBlock = (dhdr d).ownBlock ∨ ∀ g, (dhdr d').ownBlock = some g → w.heap.size ≤ g)
    (hx : ∀ x ∈ d'.row, x ∈ d.row ∨ (w'.ownsRow w.heap.size 5 1 (bv x.2.1) x.2.1.1.length (x.2.1.1.map Bv) ∧ x.2.1.1.length ≤ 4096)) : DStep w w' B q d d' := by
  have hbody : ∀ x ∈ d.row, w'.ownsRow B 5 1 (bv x.2.1) x.2.1.1.length (x.2.1.1.map Bv) := fun x hx => own_only (h.body x hx) ho fun g hg hS => by
    obtain ⟨cur, hb1⟩ := own_blk (h.body x hx) hg
    rcases hS with rfl | hS
    · exact absurd (blk_type h.blk hb1) (by decide)
    · obtain ⟨cur2, hb2⟩ := own_blk h.row hS
      exact absurd (blk_type hb2 hb1) (by decide)
  refine ⟨⟨hb, hr, fun x hx' => ?_, h.ge, fun x hx' => ?_⟩, ho.mono fun g _ hS => ?_, fun g hg => ?_⟩
  · rcases hx x hx' with h1 | h1
    · exact hbody x h1
    · exact own_more h1.1 fun g hg => Nat.le_trans hB (h1.1.lt g hg).1
  · rcases hx x hx' with h1 | h1
    · exact h.small x h1
    · exact h1.2
  · rcases hS with rfl | hS
    · exact .inl rfl
    · exact .inr (.inl hS)
  · rcases hg with rfl | hg | ⟨x, hx', hg⟩
    · exact .inl (.inl rfl)
    · rcases hf with e | e
      · exact .inl (.inr (.inl (e ▸ hg)))
      · exact .inr (e g hg)
    · rcases hx x hx' with h1 | h1
      · exact .inl (.inr (.inr ⟨x, h1, hg⟩))
      · exact .inr (h1.1.lt g hg).1
theorem DocAt.hdr0 (h : DocAt w B q d) : w.cell? ⟨q, 0, none⟩ = some (.slice d.A d.row.length d.c) := h.blk.cell 0
theorem DocAt.hdr1 (h : DocAt w B q d) : w.cell? ⟨q, 1, none⟩ = some (.int .i64 d.lost) := h.blk.cell 1
/-- where the row lies, if there is one -/
theorem DocAt.lies (h : DocAt w B q d) (hn : 0 < d.row.length) : ∃ g, d.A = some ⟨g, 0, none⟩ := by
  obtain ⟨g, cap, hv, _, _⟩ := h.row.form hn
  exact ⟨g, by injection hv⟩
theorem DocAt.elem (h : DocAt w B q d) {g i : Nat} {x : DP} (hA : d.A = some ⟨g, 0, none⟩) (hx : d.row[i]? = some x) :
    w.cell? ⟨g, i * 4, none⟩ = some (.int .i64 x.1.1) ∧ w.cell? ⟨g, i * 4 + 1, none⟩ = some (.int .i64 x.1.2) ∧ w.cell? ⟨g, i * 4 + 2, none⟩ = some (.slice x.2.1.2.1 x.2.1.1.length x.2.1.2.2) ∧ w.cell? ⟨g, i * 4 + 3, none⟩ = some (.bool x.2.2) := by
  have hr := h.row
  rw [dhdr, hA] at hr
  have hi := (List.getElem?_eq_some_iff.1 hx).1
  have hl := dCells_len d.row
  exact ⟨(hr.cellAt (i * 4) (by omega)).trans (dCells_at _ i 0 x hx (by omega)), (hr.cellAt (i * 4 + 1) (by omega)).trans (dCells_at _ i 1 x hx (by omega)), (hr.cellAt (i * 4 + 2) (by omega)).trans (dCells_at _ i 2 x hx (by omega)), (hr.cellAt (i * 4 + 3) (by omega)).trans (dCells_at _ i 3 x hx (by omega))⟩
end
/-- the packets of a way, in order -/
def way (f t : Int) (r : List DP) : List DP := r.filter fun x => decide (x.1 = (f, t))
theorem way_app (f t : Int) (a b : List DP) : way f t (a ++ b) = way f t a ++ way f t b := List.filter_append ..
theorem way_one_yes (f t : Int) (x : DP) (h : x.1 = (f, t)) : way f t [x] = [x] := by simp [way, h]
theorem way_one_no (f t : Int) (x : DP) (h : x.1 ≠ (f, t)) : way f t [x] = [] := by simp [way, h]
theorem way_succ (f t : Int) (r : List DP) {k : Nat} {x : DP} (hx : r[k]? = some x) : way f t (r.take (k + 1)) = way f t (r.take k) ++ way f t [x] := by
  have e : r.take (k + 1) = r.take k ++ [x] := by rw [List.take_add_one, hx]; rfl
  rw [e, way_app]
theorem way_take_le (f t : Int) (r : List DP) (k : Nat) : (way f t (r.take k)).length ≤ (way f t r).length := by
  have : way f t r = way f t (r.take k) ++ way f t (r.drop k) := by rw [← way_app, List.take_append_drop]
  rw [this, List.length_append]
  omega
theorem way_le (f t : Int) (r : List DP) : (way f t r).length ≤ r.length := List.length_filter_le ..
set_option maxHeartbeats 1000000 in
set_option maxRecDepth 20000 in
theorem dlen_any (B q : Nat) (d : DS) (f t : Int) (w : World) (h : DocAt w B q d) (hs : d.row.length ≤ 100000) : Calls Try.prog 22 #[.pointer (some ⟨q, 0, none⟩), .int .i64 f, .int .i64 t] w fun e w' => e = .returned (.int .i64 ((way f t d.row).length : Int)) ∧ w = w' := by
  have HD := hide h
  have fc := h.hdr0
  clear h
  go_enter Try.func22, Try.ntmps22
  go_wp2_with fail
  go_loopw [7, 8] (fun c i wr => ∃ k : Nat, k ≤ d.row.length ∧ i = .int .i64 k ∧ c = .int .i64 ((way f t (d.row.take k)).length : Int) ∧ w = wr) (fun _ i _ => d.row.length - (intOf i).toNat)
  case atStart => exact ⟨0, Nat.zero_le _, rfl, rfl, rfl⟩
  case round =>
    obtain ⟨k, hk, rfl, rfl, rfl⟩ := hrel
    by_cases hlt : k < d.row.length
    · obtain ⟨g, hA⟩ := (unhide HD).lies (by omega)
      obtain ⟨x, hx⟩ : ∃ x, d.row[k]? = some x := ⟨_, List.getElem?_eq_getElem hlt⟩
      have he := (unhide HD).elem hA hx
      have HW := hide (way_succ f t d.row hx)
      have hle := way_le f t (d.row.take k)
      rw [List.length_take] at hle
      rw [hA] at fc
      clear hx
      by_cases c1 : x.1.1 = f
      · have g1 : (x.1.1 == f) = true := beq_iff_eq.2 c1
        by_cases c2 : x.1.2 = t
        · have g2 : (x.1.2 == t) = true := beq_iff_eq.2 c2
          have HX : Hid (way f t [x] = [x]) := hide (way_one_yes f t x (by rw [← c1, ← c2]))
          clear c1 c2
          go_wp2_with fail
          go_roundw
          case rel => exact ⟨k + 1, by omega, by go_num, by rw [unhide HW, unhide HX, List.length_append, List.length_singleton]; go_num, by first | rfl | trivial⟩
          case measure => simp [intOf]; omega
        · have g2 : (x.1.2 == t) = false := beq_eq_false_iff_ne.2 c2
          have HX : Hid (way f t [x] = []) := hide (way_one_no f t x (fun e => c2 (by rw [e])))
          clear c1 c2
          go_wp2_with fail
          go_roundw
          case rel => exact ⟨k + 1, by omega, by go_num, by rw [unhide HW, unhide HX, List.append_nil], by first | rfl | trivial⟩
          case measure => simp [intOf]; omega
      · have g1 : (x.1.1 == f) = false := beq_eq_false_iff_ne.2 c1
        have HX : Hid (way f t [x] = []) := hide (way_one_no f t x (fun e => c1 (by rw [e])))
        clear c1
        go_wp2_with fail
        go_roundw
        case rel => exact ⟨k + 1, by omega, by go_num, by rw [unhide HW, unhide HX, List.append_nil], by first | rfl | trivial⟩
        case measure => simp [intOf]; omega
    · obtain rfl : k = d.row.length := by omega
      go_wp2_with fail
      go_ret
      exact ⟨by rw [List.take_length]; rfl, rfl⟩
/-- what find goes by: the number that is left at each place, where it stops -/
structure Goes (f t i : Int) (r : List DP) (v : Nat → Int) (K : Nat) : Prop where
  start : v 0 = i
  le : K ≤ r.length
  yes : ∀ k x, k < K → r[k]? = some x → x.1 = (f, t) → v k ≠ 0 ∧ wrap64 (v k - 1) = v (k + 1)
  no : ∀ k x, k < K → r[k]? = some x → x.1 ≠ (f, t) → v (k + 1) = v k
  stop : ∀ x, r[K]? = some x → x.1 = (f, t) ∧ v K = 0
set_option maxHeartbeats 1000000 in
set_option maxRecDepth 20000 in
theorem find_goes (B q : Nat) (d : DS) (f t i : Int) (v : Nat → Int) (K : Nat) (w : World) (h : DocAt w B q d) (hs : d.row.length ≤ 100000) (hr : Rt f t) (hg : Goes f t i d.row v K) : Calls Try.prog 38 #[.pointer (some ⟨q, 0, none⟩), .int .i64 f, .int .i64 t, .int .i64 i] w fun e w' => e = .returned (if K < d.row.length then .tuple #[.int .i64 (K : Int), .int .i64 0] else .tuple #[.int .i64 0, .int .i64 7]) ∧ w = w' := by
  have HD := hide h
  have fc := h.hdr0
  have HG := hide hg
  have hK := hg.le
  have HR : Hid (∀ u, Calls Try.prog 9 #[.int .i64 f, .int .i64 t] u fun e w' => e = .returned (.bool true) ∧ u = w') := hide (fun u => by
    obtain ⟨a, b, rfl, rfl, ha, hb, hab, _⟩ := hr.nat
    exact rright_yes a b u ha hb hab)
  have h0 := hg.start
  clear h hg hr
  go_enter Try.func38, Try.ntmps38
  go_wp2_with (go_at_call 9; refine (unhide HR _).mono ?_; rintro _ w2 ⟨rfl, rfl⟩)
  go_loopw [3, 10] (fun c j wr => ∃ k : Nat, k ≤ K ∧ j = .int .i64 k ∧ c = .int .i64 (v k) ∧ w = wr) (fun _ j _ => d.row.length - (intOf j).toNat)
  case atStart => exact ⟨0, Nat.zero_le _, rfl, by rw [h0], rfl⟩
  case round =>
    obtain ⟨k, hk, rfl, rfl, rfl⟩ := hrel
    by_cases hlt : k < d.row.length
    · obtain ⟨g, hA⟩ := (unhide HD).lies (by omega)
      obtain ⟨x, hx⟩ : ∃ x, d.row[k]? = some x := ⟨_, List.getElem?_eq_getElem hlt⟩
      have he := (unhide HD).elem hA hx
      rw [hA] at fc
      by_cases hlk : k < K
      · by_cases c : x.1 = (f, t)
        · obtain ⟨n1, n2⟩ := (unhide HG).yes k x hlk hx c
          have g1 : (x.1.1 == f) = true := beq_iff_eq.2 (by rw [c])
          have g2 : (x.1.2 == t) = true := beq_iff_eq.2 (by rw [c])
          have g3 : (v k == 0) = false := beq_eq_false_iff_ne.2 n1
          have HN := hide n2
          clear hx c n1 n2 h0
          go_wp2_with fail
          go_roundw
          case rel => exact ⟨k + 1, by omega, by go_num, by rw [← unhide HN], by first | rfl | trivial⟩
          case measure => simp [intOf]; omega
        · have HN := hide ((unhide HG).no k x hlk hx c)
          by_cases c1 : x.1.1 = f
          · have g1 : (x.1.1 == f) = true := beq_iff_eq.2 c1
            have g2 : (x.1.2 == t) = false := beq_eq_false_iff_ne.2 fun c2 => c (by rw [← c1, ← c2])
            clear hx c c1 h0
            go_wp2_with fail
            go_roundw
            case rel => exact ⟨k + 1, by omega, by go_num, by rw [unhide HN], by first | rfl | trivial⟩
            case measure => simp [intOf]; omega
          · have g1 : (x.1.1 == f) = false := beq_eq_false_iff_ne.2 c1
            clear hx c c1 h0
            go_wp2_with fail
            go_roundw
            case rel => exact ⟨k + 1, by omega, by go_num, by rw [unhide HN], by first | rfl | trivial⟩
            case measure => simp [intOf]; omega
      · obtain rfl : k = K := by omega
        obtain ⟨c, n⟩ := (unhide HG).stop x hx
        have g1 : (x.1.1 == f) = true := beq_iff_eq.2 (by rw [c])
        have g2 : (x.1.2 == t) = true := beq_iff_eq.2 (by rw [c])
        have g3 : (v k == 0) = true := beq_iff_eq.2 n
        clear hx c n h0
        go_wp2_with fail
        go_ret2
        exact ⟨by first | rfl | (rw [if_pos hlt]; rfl), rfl⟩
    · obtain rfl : k = d.row.length := by omega
      have hKe : K = d.row.length := by omega
      clear h0
      go_wp2_with fail
      go_ret2
      exact ⟨by first | rfl | (rw [if_neg (by omega)]; rfl), rfl⟩
theorem find_away (q : Nat) (f t i : Int) (w : World) (h : ¬ Rt f t) : Calls Try.prog 38 #[.pointer (some ⟨q, 0, none⟩), .int .i64 f, .int .i64 t, .int .i64 i] w fun e w' => e = .returned (.tuple #[.int .i64 0, .int .i64 1]) ∧ w = w' := by
  have HR := hide (fun u => rright_no f t u h)
  clear h
  go_enter Try.func38, Try.ntmps38
  go_wp2_with (go_at_call 9; refine (unhide HR _).mono ?_; rintro _ w2 ⟨rfl, rfl⟩)
  go_ret2
  exact ⟨rfl, rfl⟩
/-- the packet of a place on a way: it is there -/
theorem find_yes (B q : Nat) (d : DS) (f t : Int) (pre post : List DP) (x : DP) (w : World) (h : DocAt w B q d) (hs : d.row.length ≤ 100000) (hr : Rt f t) (he : d.row = pre ++ x :: post) (hx : x.1 = (f, t)) : Calls Try.prog 38 #[.pointer (some ⟨q, 0, none⟩), .int .i64 f, .int .i64 t, .int .i64 ((way f t pre).length : Int)] w fun e w' => e = .returned (.tuple #[.int .i64 (pre.length : Int), .int .i64 0]) ∧ w = w' := by
  have hlen : d.row.length = pre.length + 1 + post.length := by rw [he]; simp; omega
  have hpre : ∀ k, k < pre.length → d.row[k]? = pre[k]? := fun k hk => by rw [he, List.getElem?_append_left hk]
  refine (find_goes B q d f t _ (fun k => ((way f t pre).length : Int) - ((way f t (pre.take k)).length : Int)) pre.length w h hs hr ⟨by simp [way], by omega, fun k y hk hy hm => ?_, fun k y hk hy hm => ?_, fun y hy => ?_⟩).mono ?_
  · rw [hpre k hk] at hy
    have h1 := way_succ f t pre hy
    rw [way_one_yes f t y hm] at h1
    have h2 := way_take_le f t pre (k + 1)
    have h3 := way_le f t pre
    rw [h1, List.length_append, List.length_singleton] at h2
    simp only [h1, List.length_append, List.length_singleton]
    unfold wrap64
    omega
  · rw [hpre k hk] at hy
    have h1 := way_succ f t pre hy
    rw [way_one_no f t y hm, List.append_nil] at h1
    simp only [h1]
  · rw [he, List.getElem?_append_right (Nat.le_refl _), Nat.sub_self] at hy
    simp at hy
    subst hy
    exact ⟨hx, by simp⟩
  · rintro _ _ ⟨rfl, rfl⟩
    exact ⟨by rw [if_pos (by omega)], rfl⟩
/-- there is no such packet -/
theorem find_none (B q : Nat) (d : DS) (f t i : Int) (w : World) (h : DocAt w B q d) (hs : d.row.length ≤ 100000) (hr : Rt f t) (hlo : -9223372036854775808 ≤ i) (hhi : i ≤ 9223372036854775807) (hi : i < 0 ∨ ((way f t d.row).length : Int) ≤ i) : Calls Try.prog 38 #[.pointer (some ⟨q, 0, none⟩), .int .i64 f, .int .i64 t, .int .i64 i] w fun e w' => e = .returned (.tuple #[.int .i64 0, .int .i64 7]) ∧ w = w' := by
  refine (find_goes B q d f t i (fun k => wrap64 (i - ((way f t (d.row.take k)).length : Int))) d.row.length w h hs hr ⟨by simp [way]; unfold wrap64; omega, Nat.le_refl _, fun k y hk hy hm => ?_, fun k y hk hy hm => ?_, fun y hy => ?_⟩).mono ?_
  · have h1 := way_succ f t d.row hy
    rw [way_one_yes f t y hm] at h1
    have h2 := way_take_le f t d.row (k + 1)
    have h3 := way_le f t d.row
    rw [h1, List.length_append, List.length_singleton] at h2
    simp only [h1, List.length_append, List.length_singleton]
    unfold wrap64
    omega
  · have h1 := way_succ f t d.row hy
    rw [way_one_no f t y hm, List.append_nil] at h1
    simp only [h1]
  · rw [List.getElem?_eq_none (Nat.le_refl _)] at hy
    cases hy
  · rintro _ _ ⟨rfl, rfl⟩
    exact ⟨by rw [if_neg (by omega)], rfl⟩
/-- each packet of a way stands somewhere in the row -/
theorem way_split (f t : Int) : ∀ (r : List DP) (n : Nat), n < (way f t r).length → ∃ pre x post, r = pre ++ x :: post ∧ x.1 = (f, t) ∧ (way f t pre).length = n
  | [], n, h => by simp [way] at h
  | y :: r, n, h => by
    have e : way f t (y :: r) = way f t [y] ++ way f t r := way_app f t [y] r
    by_cases c : y.1 = (f, t)
    · rw [e, way_one_yes f t y c] at h
      cases n with
      | zero => exact ⟨[], y, r, rfl, c, rfl⟩
      | succ n =>
        obtain ⟨pre, x, post, h1, h2, h3⟩ := way_split f t r n (by simpa using h)
        refine ⟨y :: pre, x, post, by rw [h1]; rfl, h2, ?_⟩
        rw [show way f t (y :: pre) = way f t [y] ++ way f t pre from way_app f t [y] pre, way_one_yes f t y c, List.length_append, h3, List.length_singleton]
        omega
    · rw [e, way_one_no f t y c] at h
      obtain ⟨pre, x, post, h1, h2, h3⟩ := way_split f t r n (by simpa using h)
      refine ⟨y :: pre, x, post, by rw [h1]; rfl, h2, ?_⟩
      rw [show way f t (y :: pre) = way f t [y] ++ way f t pre from way_app f t [y] pre, way_one_no f t y c]
      exact h3
end Go.Proofs.Ytbclfiollfagmaa
