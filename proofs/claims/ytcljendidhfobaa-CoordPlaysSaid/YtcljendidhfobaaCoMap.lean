/- Shard maps: who owns a key, by the program and by the document; is a map right. -/
import Derived.Test.YtcljendidhfobaaCoStart
namespace Go.Proofs.Ytcljendidhfobaa
open Go.ChangeShapes Go.WideShapes Go.ChangeAt Go.RowKit
set_option linter.unusedVariables false

/-- a map: its cuts, its nodes, where they lie -/
structure Mp where
  A : Option Addr
  c : Nat
  cuts : List ByteArray
  A2 : Option Addr
  c2 : Nat
  nodes : List Int
def Mp.cells (m : Mp) : Array Value := #[.slice m.A m.cuts.length m.c, .slice m.A2 m.nodes.length m.c2]
structure Mp.Ok (m : Mp) (w : World) (B : Nat) : Prop where
  cuts : RdV w B m.A (m.cuts.map Value.string)
  nodes : RdV w B m.A2 (m.nodes.map (Value.int .i64))
theorem Mp.Ok.below {m : Mp} {w w' : World} {B : Nat} (h : m.Ok w B) (hb : Below B w w') : m.Ok w' B := ⟨h.cuts.below hb, h.nodes.below hb⟩
theorem Mp.Ok.more {m : Mp} {w : World} {B B' : Nat} (h : m.Ok w B) (hB : B ≤ B') : m.Ok w B' := ⟨h.cuts.more hB, h.nodes.more hB⟩
section
variable {H : Type} {enc : TypeId × Value → H} {W : World} {k : DataW H → Prop}
theorem cell_strings {fuel : Nat} {v : Value} {y : DataW H × List MemPlace} (h : DataW.trod enc Try.prog W 0 (fun _ => true) true fuel 51 [v] = some y) (hlt : ∀ x ∈ y.2, x.block < W.heap.size) (h3 : ∀ n ∈ y.1.weights Try.prog 51, n ≤ reachBytes) :
    ∃ (A : Option Addr) (c : Nat) (l : List ByteArray), v = .slice A l.length c ∧ RdV W W.heap.size A (l.map Value.string) := by
  obtain ⟨A, n, c, rfl, h1, h2, _, hel⟩ := open_slice (s := 1) Try.underlying51 (by kernel_rfl) (by omega) h hlt h3
  obtain ⟨r, hr, hR⟩ := choose_list (R := fun i (x : ByteArray) => ∃ ad : Addr, A = some ad ∧ ad.block < W.heap.size ∧ W.cell? (ad.add i) = some (.string x)) n (fun i hi => by
    obtain ⟨ad, cs, z, m, g1, g2, g3, g4, _, _⟩ := hel i hi
    obtain ⟨s, hs, hcs, _⟩ := DataW.trod_string Try.underlying9 g4
    subst hs
    exact ⟨_, ad, g1, g2, by have := g3 0 _ rfl; simpa using this⟩)
  refine ⟨A, c, r, by rw [hr], fun hn => ?_⟩
  rw [List.length_map] at hn
  obtain ⟨ad, e, hb, _⟩ := hR 0 (r[0]'(by omega)) (List.getElem?_eq_getElem _)
  refine ⟨ad, e, hb, fun j u hu => ?_⟩
  rw [List.getElem?_map, Option.map_eq_some_iff] at hu
  obtain ⟨x, hx, rfl⟩ := hu
  obtain ⟨ad2, e2, _, hc⟩ := hR j x hx
  rw [e] at e2
  injection e2 with e2
  subst e2
  exact hc
theorem Came.mp {x : Value} (h : Came enc Try.prog W k 53 x) : ∃ m : Mp, x = .agg m.cells ∧ m.Ok W W.heap.size := by
  obtain ⟨d, p, base, h1, hok, h3, _⟩ := h
  have lt0 : ∀ x ∈ p, x.block < W.heap.size := by obtain ⟨m, hm⟩ := h1; exact DataW.trod_lt m _ _ _ hm
  obtain ⟨fuel, hf⟩ := h1
  obtain ⟨cs, rfl, hs⟩ := okWide_struct Try.underlying53 hok
  have hf2 : DataW.trod enc Try.prog W 0 (fun _ => true) true fuel 53 cs.toList = some (d, p) := hf
  obtain ⟨xs, n, _, hx, hl, hlen, hs⟩ := DataW.trod_struct Try.underlying53 hf2
  have hl : cs.toList.length = 2 := hl.trans (by kernel_rfl)
  obtain ⟨cl⟩ := cs
  match cl, hl, xs, hlen with
  | [c0, c1], _, [y0, y1], _ =>
    simp only [Prod.mk.injEq] at hx
    obtain ⟨rfl, rfl⟩ := hx
    have e0 : DataW.trod enc Try.prog W 0 (fun _ => true) true n 51 [c0] = some y0 := hs 0 _ rfl
    have e1 : DataW.trod enc Try.prog W 0 (fun _ => true) true n 37 [c1] = some y1 := hs 1 _ rfl
    obtain ⟨A, c, l, rfl, r0⟩ := cell_strings e0 (fun x hx => lt0 x (by simp [hx])) (fun m hm => h3 m (by
      simp [DataW.weights, Try.underlying53, DataW.weightsEach, hm]))
    obtain ⟨A2, l2, c2, rfl, _, _, _, hr2⟩ := cell_ints Try.underlying37 Try.underlying3 (by kernel_rfl) e1 (fun x hx => lt0 x (by simp [hx])) (fun m hm => h3 m (by
      simp [DataW.weights, Try.underlying53, DataW.weightsEach, hm]))
    refine ⟨⟨A, c, l, A2, c2, l2⟩, rfl, r0, fun hn => ?_⟩
    obtain ⟨ad, e, hb, hc⟩ := hr2.2 (by simpa using hn)
    refine ⟨ad, e, hb, fun j u hu => ?_⟩
    rw [List.getElem?_map, Option.map_eq_some_iff] at hu
    obtain ⟨x, hx, rfl⟩ := hu
    exact hc j x hx
theorem Came.vers {x : Value} (h : Came enc Try.prog W k 26 x) : ∃ (A : Option Addr) (c : Nat) (vs : List Vr), x = .slice A vs.length c ∧ RdS W (fun k => k < W.heap.size) A (vrow vs) := by
  obtain ⟨d, p, base, h1, hok, h3, _⟩ := h
  have lt0 : ∀ x ∈ p, x.block < W.heap.size := by obtain ⟨m, hm⟩ := h1; exact DataW.trod_lt m _ _ _ hm
  obtain ⟨fuel, hf⟩ := h1
  obtain ⟨A0, n0, c0, rfl⟩ := okWide_slice Try.underlying26 hok
  obtain ⟨A, c, vs, e, _, _, hr⟩ := cell_vers (y := (d, p)) (by simpa [Value.cells] using hf) lt0 h3
  exact ⟨A, c, vs, e, hr⟩
end
theorem RdV.str {w : World} {B : Nat} {A : Option Addr} {l : List ByteArray} (h : RdV w B A (l.map Value.string)) {i : Nat} {x : ByteArray} (hx : l[i]? = some x) : ∃ ad, A = some ad ∧ ad.block < B ∧ w.cell? (ad.add i) = some (.string x) := by
  obtain ⟨ad, e, hb, hc⟩ := h (by have := (List.getElem?_eq_some_iff.1 hx).1; simp; omega)
  exact ⟨ad, e, hb, hc i _ (by rw [List.getElem?_map, hx]; rfl)⟩
theorem RdV.num {w : World} {B : Nat} {A : Option Addr} {l : List Int} (h : RdV w B A (l.map (Value.int .i64))) {i : Nat} {x : Int} (hx : l[i]? = some x) : ∃ ad, A = some ad ∧ ad.block < B ∧ w.cell? (ad.add i) = some (.int .i64 x) := by
  obtain ⟨ad, e, hb, hc⟩ := h (by have := (List.getElem?_eq_some_iff.1 hx).1; simp; omega)
  exact ⟨ad, e, hb, hc i _ (by rw [List.getElem?_map, hx]; rfl)⟩
/-- the order of keys -/
theorem less_tri : ∀ (x y : List UInt8), (Op.bytesLess x y || (x == y)) = !(Op.bytesLess y x)
  | [], [] => by simp [Op.bytesLess]
  | _ :: _, [] => by simp [Op.bytesLess]
  | [], _ :: _ => by simp [Op.bytesLess]
  | a :: x, b :: y => by
    have ih := less_tri x y
    rw [Op.bytesLess, Op.bytesLess]
    rcases Nat.lt_trichotomy a.toNat b.toNat with h | h | h
    · have h1 : a < b := UInt8.lt_iff_toNat_lt.2 h
      have h2 : ¬ b < a := fun h => by have := UInt8.lt_iff_toNat_lt.1 h; omega
      have h3 : ¬ b = a := fun e => by subst e; omega
      simp [h1, h2, h3]
    · obtain rfl : a = b := UInt8.toNat_inj.1 h
      have h1 : ¬ a < a := fun h => by have := UInt8.lt_iff_toNat_lt.1 h; omega
      simp only [h1, decide_false, beq_self_eq_true, Bool.true_and, Bool.false_or, ← ih]
      simp
    · have h1 : b < a := UInt8.lt_iff_toNat_lt.2 h
      have h2 : ¬ a < b := fun h => by have := UInt8.lt_iff_toNat_lt.1 h; omega
      have h3 : ¬ a = b := fun e => by subst e; omega
      simp [h1, h2, h3]
/-- is a cut not above a key -/
def leB (key c : ByteArray) : Bool := !(Op.bytesLess key.toList c.toList)
def findN (cuts : List ByteArray) (key : ByteArray) : Nat := (cuts.filter (leB key)).length
theorem findN_succ {cuts : List ByteArray} {k : Nat} {x : ByteArray} (key : ByteArray) (h : cuts[k]? = some x) : findN (cuts.take (k + 1)) key = findN (cuts.take k) key + (if leB key x then 1 else 0) := by
  unfold findN
  rw [List.take_add_one, h, List.filter_append, List.length_append]
  congr 1
  show (List.filter (leB key) [x]).length = _
  rw [List.filter_cons]
  split <;> rfl
theorem findN_le (cuts : List ByteArray) (key : ByteArray) (k : Nat) : findN (cuts.take k) key ≤ k := by
  unfold findN
  have := List.length_filter_le (leB key) (cuts.take k)
  rw [List.length_take] at this
  omega
def ownM (m : Mp) (key : ByteArray) : Int := (m.nodes[findN m.cuts key]?).getD (-1)
set_option maxHeartbeats 4000000 in
set_option maxRecDepth 20000 in
theorem find_key (m : Mp) (key : ByteArray) (B : Nat) (w : World) (h : m.Ok w B) (hB : B ≤ w.heap.size) (hl : m.cuts.length ≤ 1000) :
    Calls Try.prog 32 #[.agg #[.slice m.A m.cuts.length m.c, .slice m.A2 m.nodes.length m.c2], .string key] w fun e w' => e = .returned (.int .i64 (findN m.cuts key : Int)) ∧ Below w.heap.size w w' := by
  have HC := hide (h.cuts.more hB)
  obtain ⟨A, c, cuts, A2, c2, nodes⟩ := m
  simp only at HC hl ⊢
  clear h
  go_enter Try.func32, Try.ntmps32
  go_wp2_with fail
  go_loopw [5, 11] (fun nv iv wr => ∃ (k : Nat), k ≤ cuts.length ∧ iv = .int .i64 k ∧ nv = .int .i64 (findN (cuts.take k) key : Nat) ∧ Below w.heap.size w wr) (fun _ iv _ => cuts.length - (intOf iv).toNat)
  case atStart => exact ⟨0, by omega, rfl, rfl, (Below.refl _ _).alloc (Nat.le_refl _) _⟩
  case round =>
    obtain ⟨k, hk, rfl, rfl, hb⟩ := hrel
    have HB := hide hb
    have hle := findN_le cuts key k
    clear hb
    by_cases hlt : k < cuts.length
    · obtain ⟨x, hx⟩ : ∃ x, cuts[k]? = some x := ⟨cuts[k], List.getElem?_eq_getElem hlt⟩
      obtain ⟨ad, hA, _, c0⟩ := ((unhide HC).below (unhide HB)).str hx
      subst hA
      have hs := findN_succ key hx
      have HS := hide hs
      have htri := less_tri x.toList key.toList
      clear hx hs
      by_cases hc : leB key x = true
      · have f1 : (Op.bytesLess x.toList key.toList || (x.toList == key.toList)) = true := htri.trans hc
        have HC2 := hide hc
        clear hc htri
        go_wp2_with fail
        all_goals exact ⟨⟨k + 1, by omega, by go_num, by rw [unhide HS, if_pos (unhide HC2)]; go_num, unhide HB⟩, by simp [intOf]; omega⟩
      · have hc2 : leB key x = false := by simpa only [Bool.not_eq_true] using hc
        have f1 : (Op.bytesLess x.toList key.toList || (x.toList == key.toList)) = false := htri.trans hc2
        have HC2 := hide hc2
        clear hc htri hc2
        go_wp2_with fail
        all_goals exact ⟨⟨k + 1, by omega, by go_num, by rw [unhide HS, if_neg (by rw [unhide HC2]; decide)]; rfl, unhide HB⟩, by simp [intOf]; omega⟩
    · obtain rfl : k = cuts.length := by omega
      have ht : findN (cuts.take cuts.length) key = findN cuts key := by rw [List.take_length]
      go_wp2_with fail
      go_ret
      exact ⟨by rw [← ht]; rfl, unhide HB⟩
set_option maxHeartbeats 4000000 in
set_option maxRecDepth 20000 in
theorem rfind_key (m : Mp) (key : ByteArray) (B : Nat) (w : World) (h : m.Ok w B) (hB : B ≤ w.heap.size) (hl : m.cuts.length ≤ 1000) :
    Calls Try.prog 38 #[.agg #[.slice m.A m.cuts.length m.c, .slice m.A2 m.nodes.length m.c2], .string key] w fun e w' => e = .returned (.int .i64 (findN m.cuts key : Int)) ∧ Below w.heap.size w w' := by
  have HC := hide (h.cuts.more hB)
  obtain ⟨A, c, cuts, A2, c2, nodes⟩ := m
  simp only at HC hl ⊢
  clear h
  have hb0 : Below w.heap.size w (w.alloc (.cells #[.slice A cuts.length c, .slice A2 nodes.length c2] 53)) := (Below.refl _ _).alloc (Nat.le_refl _) _
  have hq0 : Blk (w.alloc (.cells #[.slice A cuts.length c, .slice A2 nodes.length c2] 53)) w.heap.size 53 #[.slice A cuts.length c, .slice A2 nodes.length c2] := Blk.new _ _ _
  obtain ⟨w0, hw0⟩ : ∃ u, w.alloc (.cells #[.slice A cuts.length c, .slice A2 nodes.length c2] 53) = u := ⟨_, rfl⟩
  rw [hw0] at hb0 hq0
  have f0 : w0.cell? ⟨w.heap.size, 0, none⟩ = some (.slice A cuts.length c) := hq0.cell 0
  have hgl := hq0.lt
  have HB0 := hide hb0
  clear hb0 hq0
  go_enter Try.func38, Try.ntmps38
  go_wp2_with fail
  go_loopw [5, 6] (fun nv iv wr => ∃ (k : Nat), k ≤ cuts.length ∧ iv = .int .i64 k ∧ nv = .int .i64 (findN (cuts.take k) key : Nat) ∧ w0 = wr) (fun _ iv _ => cuts.length - (intOf iv).toNat)
  case atStart => exact ⟨0, by omega, rfl, rfl, rfl⟩
  case round =>
    obtain ⟨k, hk, rfl, rfl, rfl⟩ := hrel
    have hle := findN_le cuts key k
    by_cases hlt : k < cuts.length
    · obtain ⟨x, hx⟩ : ∃ x, cuts[k]? = some x := ⟨cuts[k], List.getElem?_eq_getElem hlt⟩
      obtain ⟨ad, hA, _, c0⟩ := ((unhide HC).below (unhide HB0)).str hx
      subst hA
      have hs := findN_succ key hx
      have HS := hide hs
      clear hx hs
      by_cases hc : leB key x = true
      · have f1 : Op.bytesLess key.toList x.toList = false := by unfold leB at hc; simpa using hc
        have HC2 := hide hc
        clear hc
        go_wp2_with fail
        all_goals exact ⟨⟨k + 1, by omega, by go_num, by rw [unhide HS, if_pos (unhide HC2)]; go_num, by first | rfl | trivial⟩, by simp [intOf]; omega⟩
      · have hc2 : leB key x = false := by simpa only [Bool.not_eq_true] using hc
        have f1 : Op.bytesLess key.toList x.toList = true := by unfold leB at hc2; simpa using hc2
        have HC2 := hide hc2
        clear hc hc2
        go_wp2_with fail
        all_goals exact ⟨⟨k + 1, by omega, by go_num, by rw [unhide HS, if_neg (by rw [unhide HC2]; decide)]; rfl, by first | rfl | trivial⟩, by simp [intOf]; omega⟩
    · obtain rfl : k = cuts.length := by omega
      have ht : findN (cuts.take cuts.length) key = findN cuts key := by rw [List.take_length]
      go_wp2_with fail
      go_ret
      exact ⟨by rw [← ht]; rfl, unhide HB0⟩
set_option maxHeartbeats 4000000 in
set_option maxRecDepth 20000 in
theorem owner_key (m : Mp) (key : ByteArray) (B : Nat) (w : World) (h : m.Ok w B) (hB : B ≤ w.heap.size) (hl : m.cuts.length ≤ 1000) :
    Calls Try.prog 20 #[.agg #[.slice m.A m.cuts.length m.c, .slice m.A2 m.nodes.length m.c2], .string key] w fun e w' => e = .returned (.int .i64 (ownM m key)) ∧ Below w.heap.size w w' := by
  obtain ⟨o, ho⟩ : ∃ o, ownM m key = o := ⟨_, rfl⟩
  rw [ho]
  have hb0 : Below w.heap.size w (w.alloc (.cells #[.slice m.A m.cuts.length m.c, .slice m.A2 m.nodes.length m.c2] 53)) := (Below.refl _ _).alloc (Nat.le_refl _) _
  have hq0 : Blk (w.alloc (.cells #[.slice m.A m.cuts.length m.c, .slice m.A2 m.nodes.length m.c2] 53)) w.heap.size 53 #[.slice m.A m.cuts.length m.c, .slice m.A2 m.nodes.length m.c2] := Blk.new _ _ _
  have hok := (h.more hB).below hb0
  obtain ⟨w0, hw0⟩ : ∃ u, w.alloc (.cells #[.slice m.A m.cuts.length m.c, .slice m.A2 m.nodes.length m.c2] 53) = u := ⟨_, rfl⟩
  rw [hw0] at hb0 hq0 hok
  have HF := hide (find_key m key w.heap.size w0 hok hb0.size hl)
  have HNO := hide hok.nodes
  obtain ⟨A, c, cuts, A2, c2, nodes⟩ := m
  simp only at hw0 hq0 HF HNO ho ⊢
  have hn := findN_le cuts key cuts.length
  rw [List.take_length] at hn
  simp only at hl
  unfold ownM at ho
  simp only at ho
  obtain ⟨n, hnn⟩ : ∃ n, findN cuts key = n := ⟨_, rfl⟩
  rw [hnn] at ho hn HF
  have f0 : w0.cell? ⟨w.heap.size, 0, none⟩ = some (.slice A cuts.length c) := hq0.cell 0
  have f1 : w0.cell? ⟨w.heap.size, 1, none⟩ = some (.slice A2 nodes.length c2) := hq0.cell 1
  have hgl := hq0.lt
  have HQ0 := hide hq0; have HB0 := hide hb0
  clear h hok hb0 hq0 hnn
  by_cases hlt : n < nodes.length
  · obtain ⟨x, hx⟩ : ∃ x, nodes[n]? = some x := ⟨nodes[n], List.getElem?_eq_getElem hlt⟩
    rw [hx] at ho
    have ho : x = o := ho
    subst ho
    have HX := hide hx
    clear hx
    go_enter Try.func20, Try.ntmps20
    go_wp2_with (first
      | (go_at_call 32; refine (unhide HF).mono ?_; rintro _ w2 ⟨rfl, hb2⟩
         have f12 : w2.cell? ⟨w.heap.size, 1, none⟩ = some (.slice A2 nodes.length c2) := (hb2.cell (p := ⟨w.heap.size, 1, none⟩) hgl).trans f1
         obtain ⟨ad, hA, _, c0⟩ := ((unhide HNO).below (hb2.mono (unhide HB0).size)).num (unhide HX)
         subst hA
         have hgl2 : w.heap.size < w2.heap.size := Nat.lt_of_lt_of_le hgl hb2.size
         have HB2 := hide ((unhide HB0).trans (hb2.mono (unhide HB0).size)); clear hb2))
    go_ret
    exact ⟨rfl, unhide HB2⟩
  · rw [List.getElem?_eq_none (by omega)] at ho
    have ho : -1 = o := ho
    subst ho
    go_enter Try.func20, Try.ntmps20
    go_wp2_with (first
      | (go_at_call 32; refine (unhide HF).mono ?_; rintro _ w2 ⟨rfl, hb2⟩
         have f12 : w2.cell? ⟨w.heap.size, 1, none⟩ = some (.slice A2 nodes.length c2) := (hb2.cell (p := ⟨w.heap.size, 1, none⟩) hgl).trans f1
         have hgl2 : w.heap.size < w2.heap.size := Nat.lt_of_lt_of_le hgl hb2.size
         have HB2 := hide ((unhide HB0).trans (hb2.mono (unhide HB0).size)); clear hb2))
    go_ret
    exact ⟨rfl, unhide HB2⟩
set_option maxHeartbeats 4000000 in
set_option maxRecDepth 20000 in
theorem rowner_key (m : Mp) (key : ByteArray) (B : Nat) (w : World) (h : m.Ok w B) (hB : B ≤ w.heap.size) (hl : m.cuts.length ≤ 1000) :
    Calls Try.prog 31 #[.agg #[.slice m.A m.cuts.length m.c, .slice m.A2 m.nodes.length m.c2], .string key] w fun e w' => e = .returned (.int .i64 (ownM m key)) ∧ Below w.heap.size w w' := by
  obtain ⟨o, ho⟩ : ∃ o, ownM m key = o := ⟨_, rfl⟩
  rw [ho]
  have hb0 : Below w.heap.size w (w.alloc (.cells #[.slice m.A m.cuts.length m.c, .slice m.A2 m.nodes.length m.c2] 53)) := (Below.refl _ _).alloc (Nat.le_refl _) _
  have hq0 : Blk (w.alloc (.cells #[.slice m.A m.cuts.length m.c, .slice m.A2 m.nodes.length m.c2] 53)) w.heap.size 53 #[.slice m.A m.cuts.length m.c, .slice m.A2 m.nodes.length m.c2] := Blk.new _ _ _
  have hok := (h.more hB).below hb0
  obtain ⟨w0, hw0⟩ : ∃ u, w.alloc (.cells #[.slice m.A m.cuts.length m.c, .slice m.A2 m.nodes.length m.c2] 53) = u := ⟨_, rfl⟩
  rw [hw0] at hb0 hq0 hok
  have HF := hide (rfind_key m key w.heap.size w0 hok hb0.size hl)
  have HNO := hide hok.nodes
  obtain ⟨A, c, cuts, A2, c2, nodes⟩ := m
  simp only at hw0 hq0 HF HNO ho ⊢
  have hn := findN_le cuts key cuts.length
  rw [List.take_length] at hn
  simp only at hl
  unfold ownM at ho
  simp only at ho
  obtain ⟨n, hnn⟩ : ∃ n, findN cuts key = n := ⟨_, rfl⟩
  rw [hnn] at ho hn HF
  have f0 : w0.cell? ⟨w.heap.size, 0, none⟩ = some (.slice A cuts.length c) := hq0.cell 0
  have f1 : w0.cell? ⟨w.heap.size, 1, none⟩ = some (.slice A2 nodes.length c2) := hq0.cell 1
  have hgl := hq0.lt
  have HQ0 := hide hq0; have HB0 := hide hb0
  clear h hok hb0 hq0 hnn
  by_cases hlt : n < nodes.length
  · obtain ⟨x, hx⟩ : ∃ x, nodes[n]? = some x := ⟨nodes[n], List.getElem?_eq_getElem hlt⟩
    rw [hx] at ho
    have ho : x = o := ho
    subst ho
    have HX := hide hx
    clear hx
    go_enter Try.func31, Try.ntmps31
    go_wp2_with (first
      | (go_at_call 38; refine (unhide HF).mono ?_; rintro _ w2 ⟨rfl, hb2⟩
         have f12 : w2.cell? ⟨w.heap.size, 1, none⟩ = some (.slice A2 nodes.length c2) := (hb2.cell (p := ⟨w.heap.size, 1, none⟩) hgl).trans f1
         obtain ⟨ad, hA, _, c0⟩ := ((unhide HNO).below (hb2.mono (unhide HB0).size)).num (unhide HX)
         subst hA
         have hgl2 : w.heap.size < w2.heap.size := Nat.lt_of_lt_of_le hgl hb2.size
         have HB2 := hide ((unhide HB0).trans (hb2.mono (unhide HB0).size)); clear hb2))
    go_ret
    exact ⟨rfl, unhide HB2⟩
  · rw [List.getElem?_eq_none (by omega)] at ho
    have ho : -1 = o := ho
    subst ho
    go_enter Try.func31, Try.ntmps31
    go_wp2_with (first
      | (go_at_call 38; refine (unhide HF).mono ?_; rintro _ w2 ⟨rfl, hb2⟩
         have f12 : w2.cell? ⟨w.heap.size, 1, none⟩ = some (.slice A2 nodes.length c2) := (hb2.cell (p := ⟨w.heap.size, 1, none⟩) hgl).trans f1
         have hgl2 : w.heap.size < w2.heap.size := Nat.lt_of_lt_of_le hgl hb2.size
         have HB2 := hide ((unhide HB0).trans (hb2.mono (unhide HB0).size)); clear hb2))
    go_ret
    exact ⟨rfl, unhide HB2⟩
/-- a right map -/
def Right (m : Mp) : Prop := m.nodes.length = m.cuts.length + 1 ∧ ∀ n ∈ m.nodes, 0 ≤ n ∧ n < 4
set_option maxHeartbeats 4000000 in
set_option maxRecDepth 20000 in
theorem check_map (m : Mp) (B : Nat) (w : World) (h : m.Ok w B) (hB : B ≤ w.heap.size) (hl : m.cuts.length ≤ 1000) (hr : ¬ Right m) :
    Calls Try.prog 21 #[.agg #[.slice m.A m.cuts.length m.c, .slice m.A2 m.nodes.length m.c2], .int .i64 4] w fun e w' => ∃ er : Int, er ≠ 0 ∧ e = .returned (.int .i64 er) ∧ Below w.heap.size w w' := by
  have hb0 : Below w.heap.size w (w.alloc (.cells #[.slice m.A m.cuts.length m.c, .slice m.A2 m.nodes.length m.c2] 53)) := (Below.refl _ _).alloc (Nat.le_refl _) _
  have hq0 : Blk (w.alloc (.cells #[.slice m.A m.cuts.length m.c, .slice m.A2 m.nodes.length m.c2] 53)) w.heap.size 53 #[.slice m.A m.cuts.length m.c, .slice m.A2 m.nodes.length m.c2] := Blk.new _ _ _
  have hok := (h.more hB).below hb0
  obtain ⟨w0, hw0⟩ : ∃ u, w.alloc (.cells #[.slice m.A m.cuts.length m.c, .slice m.A2 m.nodes.length m.c2] 53) = u := ⟨_, rfl⟩
  rw [hw0] at hb0 hq0 hok
  have HNO := hide hok.nodes
  have HCO := hide hok.cuts
  obtain ⟨A, c, cuts, A2, c2, nodes⟩ := m
  unfold Right at hr
  simp only at hw0 hq0 HNO HCO hl hr ⊢
  have f0 : w0.cell? ⟨w.heap.size, 0, none⟩ = some (.slice A cuts.length c) := hq0.cell 0
  have f1 : w0.cell? ⟨w.heap.size, 1, none⟩ = some (.slice A2 nodes.length c2) := hq0.cell 1
  have hgl := hq0.lt
  have HB0 := hide hb0
  have HR := hide hr
  clear h hok hb0 hq0 hr
  go_enter Try.func21, Try.ntmps21
  by_cases h8 : 8 < nodes.length
  · have h8' : (8 : Int) < (nodes.length : Int) := by omega
    go_wp2_with fail
    go_ret
    exact ⟨9, by omega, rfl, unhide HB0⟩
  · have h8' : ¬ (8 : Int) < (nodes.length : Int) := by omega
    by_cases hn : nodes.length = cuts.length + 1
    · have g1 : ((nodes.length : Int) != (cuts.length : Int) + 1) = false := by simp; omega
      have HNQ := hide hn
      clear hn
      go_wp2_with fail
      go_loopw [5, 6] (fun av iv wr => ∃ (k : Nat) (ah : ByteArray), k ≤ cuts.length ∧ iv = .int .i64 k ∧ av = .string ah ∧ w0 = wr) (fun _ iv _ => cuts.length - (intOf iv).toNat)
      case atStart => exact ⟨0, _, by omega, rfl, rfl, rfl⟩
      case round =>
        obtain ⟨k, ah, hk, rfl, rfl, rfl⟩ := hrel
        by_cases hlt : k < cuts.length
        · obtain ⟨x, hx⟩ : ∃ x, cuts[k]? = some x := ⟨cuts[k], List.getElem?_eq_getElem hlt⟩
          obtain ⟨ad, hA, _, c0⟩ := (unhide HCO).str hx
          subst hA
          clear hx
          go_wp2_with fail
          all_goals first
            | exact ⟨⟨k + 1, x, by omega, by go_num, rfl, by first | rfl | trivial⟩, by simp [intOf]; omega⟩
            | (go_ret; exact ⟨6, by omega, rfl, unhide HB0⟩)
            | (go_ret; exact ⟨3, by omega, rfl, unhide HB0⟩)
        · obtain rfl : k = cuts.length := by omega
          go_wp2_with fail
          go_loopw [7] (fun iv wr => ∃ (k : Nat), k ≤ nodes.length ∧ iv = .int .i64 k ∧ (∀ (j : Nat) (x : Int), j < k → nodes[j]? = some x → 0 ≤ x ∧ x < 4) ∧ w0 = wr) (fun iv _ => nodes.length - (intOf iv).toNat)
          case atStart => exact ⟨0, by omega, rfl, fun j x hj => by omega, rfl⟩
          case round =>
            obtain ⟨k, hk, rfl, hgo, rfl⟩ := hrel
            have HGO := hide hgo
            clear hgo
            by_cases hlt : k < nodes.length
            · obtain ⟨x, hx⟩ : ∃ x, nodes[k]? = some x := ⟨nodes[k], List.getElem?_eq_getElem hlt⟩
              obtain ⟨ad, hA, _, c0⟩ := (unhide HNO).num hx
              subst hA
              have HX := hide hx
              clear hx
              by_cases hg : 0 ≤ x ∧ x < 4
              · obtain ⟨h0, h4⟩ := hg
                have e0 : decide (x < 0) = false := decide_eq_false (by omega)
                have e1 : decide (4 ≤ x) = false := decide_eq_false (by omega)
                have e2 : ¬ x < 0 := by omega
                have e3 : ¬ 4 ≤ x := by omega
                go_wp2_with fail
                refine ⟨⟨k + 1, by omega, by go_num, fun j y hj hy => ?_, by first | rfl | trivial⟩, by simp [intOf]; omega⟩
                rcases Nat.lt_or_ge j k with h1 | h1
                · exact unhide HGO j y h1 hy
                · obtain rfl : j = k := by omega
                  rw [unhide HX] at hy
                  injection hy with hy
                  subst hy
                  exact ⟨h0, h4⟩
              · rcases Int.lt_or_le x 0 with h0 | h0
                · have e0 : decide (x < 0) = true := decide_eq_true h0
                  go_wp2_with fail
                  go_ret
                  exact ⟨7, by omega, rfl, unhide HB0⟩
                · have e0 : decide (x < 0) = false := decide_eq_false (by omega)
                  have e1 : decide (4 ≤ x) = true := decide_eq_true (by omega)
                  have e2 : ¬ x < 0 := by omega
                  have e3 : 4 ≤ x := by omega
                  go_wp2_with fail
                  go_ret
                  exact ⟨7, by omega, rfl, unhide HB0⟩
            · obtain rfl : k = nodes.length := by omega
              exfalso
              refine unhide HR ⟨unhide HNQ, fun n hn => ?_⟩
              obtain ⟨j, hj⟩ := List.mem_iff_getElem?.1 hn
              exact unhide HGO j n (List.getElem?_eq_some_iff.1 hj).1 hj
    · have g1 : ((nodes.length : Int) != (cuts.length : Int) + 1) = true := by simp; omega
      have g2 : ¬ (nodes.length : Int) = (cuts.length : Int) + 1 := by omega
      go_wp2_with fail
      go_ret
      exact ⟨3, by omega, rfl, unhide HB0⟩
end Go.Proofs.Ytcljendidhfobaa
