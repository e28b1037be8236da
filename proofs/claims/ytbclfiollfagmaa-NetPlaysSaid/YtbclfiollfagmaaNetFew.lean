/- few: at most so many calls, of few bytes. -/
import Derived.Test.YtbclfiollfagmaaNetDoT
namespace Go.Proofs.Ytbclfiollfagmaa
set_option linter.unusedVariables false
open Go.RowKit

theorem opinfo : (Try.prog.info? 47).map (fun i => (i.zero, i.size, i.bytes)) = some (some (.agg #[.int .i64 0, .int .i64 0, .int .i64 0, .int .i64 0, .int .i64 0, .int .u8 0, .slice none 0 0]), 7, 72) := by kernel_rfl
def opCells (r : List NOp) : List Value := r.flatMap NOp.cells
theorem opCells_len : ∀ (r : List NOp), (opCells r).length = r.length * 7
  | [] => rfl
  | x :: r => by
    have := opCells_len r
    simp only [opCells, NOp.cells, List.flatMap_cons, List.length_append, List.length_cons, List.length_nil] at this ⊢
    omega
theorem opCells_app (a b : List NOp) : opCells (a ++ b) = opCells a ++ opCells b := by simp [opCells]
theorem opCells_at : ∀ (r : List NOp) (i j : Nat) (x : NOp), r[i]? = some x → j < 7 → (opCells r)[i * 7 + j]? = x.cells[j]?
  | [], _, _, _, h, _ => by simp at h
  | y :: r, 0, j, x, h, hj => by
    simp at h
    subst h
    show (y.cells ++ opCells r)[0 * 7 + j]? = _
    rw [Nat.zero_mul, Nat.zero_add, List.getElem?_append_left (by simpa [NOp.cells] using hj)]
  | y :: r, i + 1, j, x, h, hj => by
    have ih := opCells_at r i j x (by simpa using h) hj
    show (y.cells ++ opCells r)[(i + 1) * 7 + j]? = _
    rw [List.getElem?_append_right (by simp [NOp.cells]; omega), ← ih]
    congr 1
    simp [NOp.cells]
    omega
/-- a call of few bytes -/
def NOp.cut (o : NOp) : NOp := { o with l := o.l.take 200 }
def fewOf (r : List NOp) (n : Nat) : List NOp := (r.take n).map NOp.cut
theorem fewOf_succ (r : List NOp) {n : Nat} {x : NOp} (hx : r[n]? = some x) : fewOf r (n + 1) = fewOf r n ++ [x.cut] := by
  have e : r.take (n + 1) = r.take n ++ [x] := by rw [List.take_add_one, hx]; rfl
  rw [fewOf, e, List.map_append]
  rfl
theorem fewOf_len (r : List NOp) {n : Nat} (h : n ≤ r.length) : (fewOf r n).length = n := by simp [fewOf]; omega
theorem NOp.Ok.cut {o : NOp} {w : World} {B : Nat} (h : o.Ok w B) : o.cut.Ok w B := by
  have hcap := h.cap
  refine ⟨fun hp => ?_, ?_, h.room, h.lo, h.hi⟩
  · have hp : 0 < (o.l.take 200).length := hp
    rw [List.length_take] at hp
    obtain ⟨ad, e, hl, hc⟩ := h.rd (by omega)
    refine ⟨ad, e, hl, fun j v hj => hc j v ?_⟩
    have hj : (o.l.take 200)[j]? = some v := hj
    rw [List.getElem?_take] at hj
    split at hj
    · exact hj
    · simp at hj
  · show (o.l.take 200).length ≤ o.c
    rw [List.length_take]
    omega
def FewP (w : World) (r : List NOp) (n : Nat) (e : Ending) (w' : World) : Prop := ∃ A' c', e = .returned (.slice A' n c') ∧ w'.ownsRow w.heap.size 47 7 (.slice A' n c') n (opCells (fewOf r n)) ∧ Below w.heap.size w w'
set_option maxHeartbeats 4000000 in
set_option maxRecDepth 20000 in
theorem few_any (r : List NOp) (A : Option Addr) (c most B : Nat) (w : World) (hr : InNOps w B A r) (hB : B ≤ w.heap.size) (hc : r.length ≤ c) (hm : most ≤ 1000) :
    Calls Try.prog 20 #[.slice A r.length c, .int .i64 (most : Int)] w (FewP w r (min most r.length)) := by
  obtain ⟨j0, hj, hy0, hy1, hy2⟩ := info_parts opinfo
  have HR := hide hr
  clear hr
  go_enter Try.func20, Try.ntmps20
  go_wp2_with fail
  go_loopw [5, 6] (fun v i wr => ∃ (k : Nat) (A' : Option Addr) (c' : Nat), k ≤ min most r.length ∧ i = .int .i64 k ∧ v = .slice A' k c' ∧ wr.ownsRow w.heap.size 47 7 (.slice A' k c') k (opCells (fewOf r k)) ∧ Below w.heap.size w wr) (fun _ i _ => r.length - (intOf i).toNat)
  case atStart => exact ⟨0, none, 0, Nat.zero_le _, rfl, rfl, own_nil _ _ _ _, Below.refl _ _⟩
  case round =>
    obtain ⟨k, A', c', hk, rfl, rfl, hown, hbel⟩ := hrel
    by_cases hlt : k < min most r.length
    · obtain ⟨x, hx⟩ : ∃ x, r[k]? = some x := ⟨_, List.getElem?_eq_getElem (by omega)⟩
      have g1 : decide ((k : Int) < (r.length : Int)) = true := decide_eq_true (by omega)
      have g2 : decide ((k : Int) < (most : Int)) = true := decide_eq_true (by omega)
      have HF := hide (fewOf_succ r hx)
      obtain ⟨⟨ad, hA, hadl, hcell⟩, hok⟩ := (unhide HR).below (hbel.mono hB) k x hx
      obtain ⟨kd, f, t, i, at_, m, l, A2, c2⟩ := x
      have q0 : wr.cell? (ad.add (k * 7)) = some (.int .i64 kd) := hcell 0 _ rfl
      have q1 : wr.cell? ⟨(ad.add (k * 7)).block, (ad.add (k * 7)).off + 1, none⟩ = some (.int .i64 f) := (by have h := hcell 1 _ rfl; rw [← Addr.add_add] at h; exact h)
      have q2 : wr.cell? ⟨(ad.add (k * 7)).block, (ad.add (k * 7)).off + 2, none⟩ = some (.int .i64 t) := (by have h := hcell 2 _ rfl; rw [← Addr.add_add] at h; exact h)
      have q3 : wr.cell? ⟨(ad.add (k * 7)).block, (ad.add (k * 7)).off + 3, none⟩ = some (.int .i64 i) := (by have h := hcell 3 _ rfl; rw [← Addr.add_add] at h; exact h)
      have q4 : wr.cell? ⟨(ad.add (k * 7)).block, (ad.add (k * 7)).off + 4, none⟩ = some (.int .i64 at_) := (by have h := hcell 4 _ rfl; rw [← Addr.add_add] at h; exact h)
      have q5 : wr.cell? ⟨(ad.add (k * 7)).block, (ad.add (k * 7)).off + 5, none⟩ = some (.int .u8 (m.toNat : Int)) := (by have h := hcell 5 _ rfl; rw [← Addr.add_add] at h; exact h)
      have q6 : wr.cell? ⟨(ad.add (k * 7)).block, (ad.add (k * 7)).off + 6, none⟩ = some (.slice A2 l.length c2) := (by have h := hcell 6 _ rfl; rw [← Addr.add_add] at h; exact h)
      have HO := hide (hown.alloc (.cells #[.int .i64 0, .int .i64 0, .int .i64 0, .int .i64 0, .int .i64 0, .int .u8 0, .slice none 0 0] 47))
      have HOL := hide (fun g hg => (hown.lt g hg).2)
      have HB := hide hbel
      have HM1 := hide ((Mem.start wr).new (t := 47) (cs := #[.int .i64 0, .int .i64 0, .int .i64 0, .int .i64 0, .int .i64 0, .int .u8 0, .slice none 0 0]) wr.heap.size rfl)
      have hsz := hbel.size
      clear hcell hown hbel hx
      subst hA
      by_cases hl : 200 < l.length
      · have g3 : decide ((200 : Int) < (l.length : Int)) = true := decide_eq_true (by omega)
        obtain ⟨ad2, hA2, _, _⟩ := hok.rd (show 0 < l.length by omega)
        have hA2 : A2 = some ad2 := hA2
        subst hA2
        have hcap : l.length ≤ c2 := hok.cap
        have g4 : (200 : Int) ≤ (c2 : Int) := by omega
        have HT : Hid ((l.take 200).length = 200) := hide (by rw [List.length_take]; omega)
        go_wp2_with (first
          | (refine wpList_store_blk rfl 47 (.tmp 7) (.tmp 22) rfl (wr.heap.size) _ (by rfl) (by rfl) 47 _ (unhide HM1).blk0 (by kernel_rfl) (by rfl) (by simp [Value.oneCell']) ?_; intro w2 hbS hgS; have HM2 := hide ((unhide HM1).grown0 hbS hgS); have HGw2 := hide hgS; clear hbS hgS
             have HO2 := hide ((unhide HO).kept (unhide HGw2) (.inr fun e => Nat.lt_irrefl _ ((unhide HOL) _ e))); have fo2 := opAt (unhide HM2).blk0; have z6 := (unhide HM2).blk0.frozen 6; have HM3 := hide (((unhide HM2).set0 (i := 6) (v := .slice (some ad2) 200 c2)).as0 (cs' := #[.int .i64 kd, .int .i64 f, .int .i64 t, .int .i64 i, .int .i64 at_, .int .u8 (m.toNat : Int), .slice (some ad2) 200 c2]) (by rfl)))
          | (refine wpList_load_blk rfl 47 (.tmp 7) rfl (wr.heap.size) rfl 47 _ _ ((unhide HM3).blk0) Try.underlying47 rfl (by kernel_rfl) ?_
             obtain ⟨w3, hw3⟩ : ∃ u, w2.setCell ⟨wr.heap.size, 6, none⟩ (.slice (some ad2) 200 c2) = u := ⟨_, rfl⟩; have HM4 := HM3; have HO3 := hide (ownsRow_setCell_other (unhide HO2) (a := ⟨wr.heap.size, 6, none⟩) (fun e => Nat.lt_irrefl _ ((unhide HOL) _ e)) (.slice (some ad2) 200 c2)); rw [hw3] at HM4 HO3 ⊢; have HOA := hide ((unhide HO3).alloc (.cells #[.int .i64 kd, .int .i64 f, .int .i64 t, .int .i64 i, .int .i64 at_, .int .u8 (m.toNat : Int), .slice (some ad2) 200 c2] 47)))
          | (at_builtin
             refine wpList_append_any _ rfl (.tmp 31) (.tmp 33) _ rfl w.heap.size 47 j0 _ 7 72 Try.underlying41 hj hy0 hy1 hy2 rfl (by omega) _ k _ rfl
               (unhide HOA) _ _ 1 1 _ rfl (RdV.of_own (base := 0) (size := 7) (World.ownsRow_lit _ #[.int .i64 kd, .int .i64 f, .int .i64 t, .int .i64 i, .int .i64 at_, .int .u8 (m.toNat : Int), .slice (some ad2) 200 c2] 1 (Nat.zero_le _) (by simp [maxLen]) rfl)) rfl (by intro u hu; simp at hu; rcases hu with rfl | rfl | rfl | rfl | rfl | rfl | rfl <;> rfl) (by simp only [maxLen]; omega) (by omega) (by have h1 := (unhide HM4).below.size; simp; omega) ?_
             intro A5 c5 w5 hown5 hg5 hat5 hbel5 hcc5
             have HO5 := hide hown5; have HB5 := hide (((unhide HB).trans ((unhide HM4).below.mono hsz)).alloc (by have h1 := (unhide HM4).below.size; omega) (.cells #[.int .i64 kd, .int .i64 f, .int .i64 t, .int .i64 i, .int .i64 at_, .int .u8 (m.toNat : Int), .slice (some ad2) 200 c2] 47) |>.trans hbel5); clear hown5 hg5 hat5 hbel5))
        go_roundw
        case rel => exact ⟨k + 1, A5, c5, by omega, by go_num, rfl, by rw [unhide HF, opCells_app]; exact (by have h := unhide HO5; simp only [opCells, NOp.cut, NOp.cells, List.flatMap_cons, List.flatMap_nil, List.append_nil, unhide HT]; exact h), unhide HB5⟩
        case measure => simp [intOf]; omega
      · have g3 : decide ((200 : Int) < (l.length : Int)) = false := decide_eq_false (by omega)
        have HT : Hid (l.take 200 = l) := hide (List.take_of_length_le (by omega))
        go_wp2_with (first
          | (refine wpList_store_blk rfl 47 (.tmp 7) (.tmp 22) rfl (wr.heap.size) _ (by rfl) (by rfl) 47 _ (unhide HM1).blk0 (by kernel_rfl) (by rfl) (by simp [Value.oneCell']) ?_; intro w2 hbS hgS; have HM2 := hide ((unhide HM1).grown0 hbS hgS); have HGw2 := hide hgS; clear hbS hgS
             have HO2 := hide ((unhide HO).kept (unhide HGw2) (.inr fun e => Nat.lt_irrefl _ ((unhide HOL) _ e))); have fo2 := opAt (unhide HM2).blk0; have z6 := (unhide HM2).blk0.frozen 6; have HM3 := HM2)
          | (refine wpList_load_blk rfl 47 (.tmp 7) rfl (wr.heap.size) rfl 47 _ _ ((unhide HM3).blk0) Try.underlying47 rfl (by kernel_rfl) ?_
             have HOA := hide ((unhide HO2).alloc (.cells #[.int .i64 kd, .int .i64 f, .int .i64 t, .int .i64 i, .int .i64 at_, .int .u8 (m.toNat : Int), .slice A2 l.length c2] 47)))
          | (at_builtin
             refine wpList_append_any _ rfl (.tmp 31) (.tmp 33) _ rfl w.heap.size 47 j0 _ 7 72 Try.underlying41 hj hy0 hy1 hy2 rfl (by omega) _ k _ rfl
               (unhide HOA) _ _ 1 1 _ rfl (RdV.of_own (base := 0) (size := 7) (World.ownsRow_lit _ #[.int .i64 kd, .int .i64 f, .int .i64 t, .int .i64 i, .int .i64 at_, .int .u8 (m.toNat : Int), .slice A2 l.length c2] 1 (Nat.zero_le _) (by simp [maxLen]) rfl)) rfl (by intro u hu; simp at hu; rcases hu with rfl | rfl | rfl | rfl | rfl | rfl | rfl <;> rfl) (by simp only [maxLen]; omega) (by omega) (by have h1 := (unhide HM3).below.size; simp; omega) ?_
             intro A5 c5 w5 hown5 hg5 hat5 hbel5 hcc5
             have HO5 := hide hown5; have HB5 := hide (((unhide HB).trans ((unhide HM3).below.mono hsz)).alloc (by have h1 := (unhide HM3).below.size; omega) (.cells #[.int .i64 kd, .int .i64 f, .int .i64 t, .int .i64 i, .int .i64 at_, .int .u8 (m.toNat : Int), .slice A2 l.length c2] 47) |>.trans hbel5); clear hown5 hg5 hat5 hbel5))
        go_roundw
        case rel => exact ⟨k + 1, A5, c5, by omega, by go_num, rfl, by rw [unhide HF, opCells_app]; exact (by have h := unhide HO5; simp only [opCells, NOp.cut, NOp.cells, List.flatMap_cons, List.flatMap_nil, List.append_nil, unhide HT]; exact h), unhide HB5⟩
        case measure => simp [intOf]; omega
    · obtain rfl : k = min most r.length := by omega
      have HO := hide hown; have HB := hide hbel
      clear hown hbel
      by_cases hmr : most < r.length
      · have g1 : decide (((min most r.length : Nat) : Int) < (r.length : Int)) = true := decide_eq_true (by omega)
        have g2 : decide (((min most r.length : Nat) : Int) < (most : Int)) = false := decide_eq_false (by omega)
        go_wp2_with fail
        go_ret
        exact ⟨A', c', rfl, unhide HO, unhide HB⟩
      · have g1 : decide (((min most r.length : Nat) : Int) < (r.length : Int)) = false := decide_eq_false (by omega)
        go_wp2_with fail
        go_ret
        exact ⟨A', c', rfl, unhide HO, unhide HB⟩
end Go.Proofs.Ytbclfiollfagmaa
