/- The walk of frame.first. -/
import Derived.Test.YtjlmcjegfbnhpaaFrmFirstMath
import Derived.Test.YtjlmcjegfbnhpaaFrmPackBad
import Derived.Test.YtjlmcjegfbnhpaaNumTakeFix
import Derived.Test.YtjlmcjegfbnhpaaAppendStep
import Derived.Deep.RegionHeld3
namespace Go.Proofs.Ytjlmcjegfbnhpaa
set_option linter.unusedVariables false
open Go.RowKit

/-- the call answers a frame whose body is new, how many bytes it has, and an error -/
def FreshF (w : World) (r : Frm.F × Nat × Int) (e : Ending) (w' : World) : Prop :=
  ∃ A c, e = .returned (.tuple #[Frm.val r.1 A c, .int .i64 (r.2.1 : Int), .int .i64 r.2.2]) ∧ w'.ownsRow w.heap.size 5 1 (.slice A r.1.body.length c) r.1.body.length (r.1.body.map Bv) ∧ Below w.heap.size w w' ∧ r.1.body.length ≤ c
def Frm.cells (v e s a : Int) (b : Value) : Array Value := #[.int .i64 v, .int .i64 e, .int .i64 s, .int .i64 a, b]
theorem Frm.cells_one (v e s a : Int) (A : Option Addr) (n c : Nat) : (Frm.cells v e s a (.slice A n c)).all (·.oneCell') = true := by simp [Frm.cells, Value.oneCell']
theorem results_cell_tmp2 {fn : Func} {p u t : Tmp} {ty : TypeId} (h : fn.results = #[.cell p ty, .tmp u, .tmp t]) (tmps : Array Value) (P : Program) (w : World) :
    (results fn tmps).run P w =
      ((asAddr (tmps.getD p undef)).run P w).andThen fun a w₁ => ((loadVar ty a).run P w₁).andThen fun v w₂ => .ok (.tuple #[v, tmps.getD u undef, tmps.getD t undef]) w₂ := by
  simp only [results, h]
  simp [Sem.run_bind, Result.andThen]
theorem ret_cell_tmp2 {fn : Func} {R : Ending → World → Prop} {a : Act} {w : World} {p u t : Tmp} {ty : TypeId} (h : fn.results = #[.cell p ty, .tmp u, .tmp t]) (g : Nat) (cs : Array Value)
    (hp : a.tmps.getD p undef = .pointer (some ⟨g, 0, none⟩)) (hl : (loadVar ty ⟨g, 0, none⟩).run Try.prog w = .ok (.agg cs) w)
    (hdf : a.defers = []) (hR : R (.returned (.tuple #[.agg cs, a.tmps.getD u undef, a.tmps.getD t undef])) w) : bodyPost Try.prog fn R .ret a w :=
  bodyPost_ret (v := .tuple #[.agg cs, a.tmps.getD u undef, a.tmps.getD t undef]) (by
    rw [results_cell_tmp2 h, hp]
    simp [asAddr, hl]) hdf hR
theorem ret_frame {R : Ending → World → Prop} {a : Act} {w : World} {fn : Func} {p u t : Tmp} (h : fn.results = #[.cell p 24, .tmp u, .tmp t]) (g : Nat) (cs : Array Value) (hs : cs.size = 5)
    (hp : a.tmps.getD p undef = .pointer (some ⟨g, 0, none⟩)) (hb : Blk w g 24 cs) (hdf : a.defers = []) (hR : R (.returned (.tuple #[.agg cs, a.tmps.getD u undef, a.tmps.getD t undef])) w) : bodyPost Try.prog fn R .ret a w :=
  ret_cell_tmp2 h g cs hp (run_loadVar_row _ _ 24 24 _ (0, 0) _ hb Try.underlying24 rfl (by rw [hs]; kernel_rfl)) hdf hR
theorem takeFixed4 (l : List UInt8) (A : Option Addr) (n c B : Nat) (w : World) (hr : RdB w B A l) (hn : l.length = n) (hc : n ≤ c) (hl : c ≤ 9223372036854775807) (h4 : 4 ≤ n) :
    Calls Try.prog 28 #[.slice A n c, .int .i64 4] w fun e w' => e = .returned (.tuple #[.int .u64 (Num.tf 0 (l.take 4) : Int), .int .i64 0]) ∧ w = w' := by
  subst hn
  have h := takeFixed_any l A c B 4 w hr hc hl (by omega) (by omega)
  rwa [show Num.takeFixed l 4 = (Num.tf 0 (l.take 4), 0) from Num.takeFixed_ok (w := 4) (by omega) (by omega) h4] at h
def Frm.nats4 (l : List Nat) : Array Value := (l.map fun n : Nat => Value.int .i64 (n : Int)).toArray
theorem Frm.nats_set (l : List Nat) (k n : Nat) : (Frm.nats4 l).setIfInBounds k (.int .i64 (n : Int)) = Frm.nats4 (l.set k n) := by
  simp [Frm.nats4, List.map_set]
theorem Frm.frozenAt {w : World} {g : Nat} {t : TypeId} {cs : Array Value} (h : Blk w g t cs) :
    w.frozen? ⟨g, 0, none⟩ = false ∧ w.frozen? ⟨g, 1, none⟩ = false ∧ w.frozen? ⟨g, 2, none⟩ = false ∧ w.frozen? ⟨g, 3, none⟩ = false ∧ w.frozen? ⟨g, 4, none⟩ = false :=
  ⟨h.frozen 0, h.frozen 1, h.frozen 2, h.frozen 3, h.frozen 4⟩
theorem freshF_zero {w w' : World} (hb : Below w.heap.size w w') (er : Int) : FreshF w (Frm.F.zero, 0, er) (.returned (.tuple #[.agg (Frm.cells 0 0 0 0 (.slice none 0 0)), .int .i64 0, .int .i64 er])) w' :=
  ⟨none, 0, rfl, own_nil _ _ _ _, hb, Nat.le_refl _⟩

set_option maxHeartbeats 1000000 in
set_option maxRecDepth 20000 in
theorem first_any (b : List UInt8) (A : Option Addr) (c B : Nat) (w : World) (hr : RdB w B A b) (hB : B ≤ w.heap.size) (hlc : b.length ≤ c) (hc : c ≤ 9223372036854775807) :
    Calls Try.prog 23 #[.slice A b.length c] w (FreshF w (Frm.first b)) := by
  obtain ⟨i0, hi, hz0, hz1, hz2⟩ := info_parts u8info
  have hk := Frm.kind b
  generalize Frm.first b = res at hk ⊢
  have HM0 := hide ((Mem.start w).new (t := 24) (cs := Frm.cells 0 0 0 0 (.slice none 0 0)) w.heap.size rfl)
  have hz : FreshF w (Frm.F.zero, 0, 2) = FreshF w (Frm.F.zero, 0, 2) := rfl
  cases hk with
  | nil hb =>
    subst hb
    go_enter Try.func23, Try.ntmps23
    go_wp2_with (refine wpList_store_blk rfl 24 (.tmp 2) (.tmp 16) rfl (w.heap.size) _ (by rfl) (by rfl) 24 _ (unhide HM0).blk0 (by kernel_rfl) (by rfl) (Frm.cells_one 0 0 0 0 none 0 0) ?_; intro w1 hbS hgS; have HM1 := hide ((unhide HM0).grown0 hbS hgS); have HGw1 := hide hgS; clear hbS hgS)
    exact ret_frame rfl w.heap.size _ rfl (by rfl) (unhide HM1).blk0 (by rfl) (by exact freshF_zero (unhide HM1).below 2)
  | form v r hb h0 =>
    obtain ⟨ad, rfl, _, hcl⟩ := hr (by rw [hb]; simp)
    have c0 : w.cell? ad = some (.int .u8 0) := (hcl 0 v (by rw [hb]; rfl)).trans (by simp only [Bv]; rw [h0]; rfl)
    have hp : 0 < b.length := by rw [hb]; simp
    have c1 : ∀ o, (w.alloc o).cell? ad = some (.int .u8 0) := fun o => (World.cell?_alloc_lt _ _ _ (by omega)).trans c0
    clear hb hcl
    go_enter Try.func23, Try.ntmps23
    go_wp2_with (refine wpList_store_blk rfl 24 (.tmp 2) (.tmp 21) rfl (w.heap.size) _ (by rfl) (by rfl) 24 _ (unhide HM0).blk0 (by kernel_rfl) (by rfl) (Frm.cells_one 0 0 0 0 none 0 0) ?_; intro w1 hbS hgS; have HM1 := hide ((unhide HM0).grown0 hbS hgS); have HGw1 := hide hgS; clear hbS hgS)
    exact ret_frame rfl w.heap.size _ rfl (by rfl) (unhide HM1).blk0 (by rfl) (by exact freshF_zero (unhide HM1).below 3)
  | short v r hb h0 h1 =>
    obtain ⟨ad, rfl, _, hcl⟩ := hr (by rw [hb]; simp)
    have c0 := hcl 0 v (by rw [hb]; rfl)
    have hp : 0 < b.length := by rw [hb]; simp
    have c1 : ∀ o, (w.alloc o).cell? ad = some (.int .u8 (v.toNat : Int)) := fun o => (World.cell?_alloc_lt _ _ _ (by omega)).trans c0
    have hv : ((v.toNat : Int) == 0) = false := beq_eq_false_iff_ne.2 (by omega)
    clear hb hcl
    go_enter Try.func23, Try.ntmps23
    go_wp2_with (refine wpList_store_blk rfl 24 (.tmp 2) (.tmp 25) rfl (w.heap.size) _ (by rfl) (by rfl) 24 _ (unhide HM0).blk0 (by kernel_rfl) (by rfl) (Frm.cells_one 0 0 0 0 none 0 0) ?_; intro w1 hbS hgS; have HM1 := hide ((unhide HM0).grown0 hbS hgS); have HGw1 := hide hgS; clear hbS hgS)
    exact ret_frame rfl w.heap.size _ rfl (by rfl) (unhide HM1).blk0 (by rfl) (by exact freshF_zero (unhide HM1).below 2)
  | long v r hb h0 h1 h2 =>
    obtain ⟨ad, rfl, _, hcl⟩ := hr (by rw [hb]; simp)
    have c0 := hcl 0 v (by rw [hb]; rfl)
    have hp : 0 < b.length := by rw [hb]; simp
    have c1 : ∀ o, (w.alloc o).cell? ad = some (.int .u8 (v.toNat : Int)) := fun o => (World.cell?_alloc_lt _ _ _ (by omega)).trans c0
    have hv : ((v.toNat : Int) == 0) = false := beq_eq_false_iff_ne.2 (by omega)
    have HMs := hide ((unhide HM0).new (t := 48) (cs := Frm.nats4 (Frm.heads b 0)) (w.heap.size + 1) (by simp))
    have h17 : 17 ≤ b.length := by omega
    clear hb hcl
    go_enter Try.func23, Try.ntmps23
    go_wp2_with fail
    go_loopw [26] (fun i wr => ∃ k : Nat, k ≤ 4 ∧ i = .int .i64 k ∧ Mem w wr [(w.heap.size + 1, 48, Frm.nats4 (Frm.heads b k)), (w.heap.size, 24, Frm.cells 0 0 0 0 (.slice none 0 0))]) (fun i _ => 4 - (intOf i).toNat)
    case atStart => exact ⟨0, by omega, rfl, unhide HMs⟩
    case round =>
      obtain ⟨k, hk, rfl, hmem⟩ := hrel
      by_cases hlt : k < 4
      · have hrk : RdB wr B (some (ad.add (1 + 4 * k))) (b.drop (1 + 4 * k)) := (hr.below (hmem.below.mono hB)).off (1 + 4 * k)
        have HT := hide (takeFixed4 (b.drop (1 + 4 * k)) (some (ad.add (1 + 4 * k))) (b.length - (1 + 4 * k)) (c - (1 + 4 * k)) B wr hrk (by simp) (by omega) (by omega) (by omega))
        have hwl := Frm.word_lt b (1 + 4 * k)
        rw [show Num.tf 0 ((b.drop (1 + 4 * k)).take 4) = Frm.word b (1 + 4 * k) from rfl] at HT
        have HM := hide hmem
        obtain ⟨u, c2⟩ : ∃ u, wr.cell? ⟨w.heap.size + 1, k, none⟩ = some u := ⟨_, (hmem.blk0.cell k).trans (Array.getElem?_eq_getElem (by simp [Frm.nats4, Frm.heads_len]; exact hlt))⟩
        have f2 := hmem.blk0.frozen k
        have s1 : (0 : Int) ≤ 1 + 4 * (k : Int) := by omega
        have s2 : 1 + 4 * (k : Int) ≤ (b.length : Int) := by omega
        have s3 : 1 + 4 * (k : Int) ≤ (c : Int) := by omega
        have HS := hide (Frm.heads_set b k hlt)
        generalize Frm.word b (1 + 4 * k) = x at HT hwl HS
        clear hmem
        go_wp2_with (go_at_call 28; refine (unhide HT).mono ?_; rintro _ w' ⟨rfl, rfl⟩)
        go_roundw
        case rel => exact ⟨k + 1, by omega, by go_num, by
          have h := (unhide HM).set0 (i := k) (v := .int .i64 (x : Int))
          rw [Frm.nats_set, unhide HS] at h
          exact h⟩
        case measure => simp [intOf]; omega
      · obtain rfl : k = 4 := by omega
        have d0 : wr.cell? ⟨w.heap.size + 1, 0, none⟩ = some (.int .i64 (Frm.word b 1 : Int)) := hmem.blk0.cell 0
        have d1 : wr.cell? ⟨w.heap.size + 1, 1, none⟩ = some (.int .i64 (Frm.word b 5 : Int)) := hmem.blk0.cell 1
        have d2 : wr.cell? ⟨w.heap.size + 1, 2, none⟩ = some (.int .i64 (Frm.word b 9 : Int)) := hmem.blk0.cell 2
        have d3 : wr.cell? ⟨w.heap.size + 1, 3, none⟩ = some (.int .i64 (Frm.word b 13 : Int)) := hmem.blk0.cell 3
        have HM := hide hmem
        have hrw := hr.below (hmem.below.mono hB)
        clear hmem
        go_wp2_with (refine wpList_store_blk rfl 24 (.tmp 2) (.tmp 46) rfl (w.heap.size) _ (by rfl) (by rfl) 24 _ (unhide HM).blk1 (by kernel_rfl) (by rfl) (Frm.cells_one 0 0 0 0 none 0 0) ?_; intro w1 hbS hgS; have HM1 := hide ((unhide HM).grown1 hbS hgS); have HGw1 := hide hgS; clear hbS hgS)
        exact ret_frame rfl w.heap.size _ rfl (by rfl) (unhide HM1).blk1 (by rfl) (by exact freshF_zero (unhide HM1).below 6)
  | cut v r hb h0 h1 h2 h3 =>
    obtain ⟨ad, rfl, _, hcl⟩ := hr (by rw [hb]; simp)
    have c0 := hcl 0 v (by rw [hb]; rfl)
    have hp : 0 < b.length := by rw [hb]; simp
    have c1 : ∀ o, (w.alloc o).cell? ad = some (.int .u8 (v.toNat : Int)) := fun o => (World.cell?_alloc_lt _ _ _ (by omega)).trans c0
    have hv : ((v.toNat : Int) == 0) = false := beq_eq_false_iff_ne.2 (by omega)
    have HMs := hide ((unhide HM0).new (t := 48) (cs := Frm.nats4 (Frm.heads b 0)) (w.heap.size + 1) (by simp))
    have h17 : 17 ≤ b.length := by omega
    clear hb hcl
    go_enter Try.func23, Try.ntmps23
    go_wp2_with fail
    go_loopw [26] (fun i wr => ∃ k : Nat, k ≤ 4 ∧ i = .int .i64 k ∧ Mem w wr [(w.heap.size + 1, 48, Frm.nats4 (Frm.heads b k)), (w.heap.size, 24, Frm.cells 0 0 0 0 (.slice none 0 0))]) (fun i _ => 4 - (intOf i).toNat)
    case atStart => exact ⟨0, by omega, rfl, unhide HMs⟩
    case round =>
      obtain ⟨k, hk, rfl, hmem⟩ := hrel
      by_cases hlt : k < 4
      · have hrk : RdB wr B (some (ad.add (1 + 4 * k))) (b.drop (1 + 4 * k)) := (hr.below (hmem.below.mono hB)).off (1 + 4 * k)
        have HT := hide (takeFixed4 (b.drop (1 + 4 * k)) (some (ad.add (1 + 4 * k))) (b.length - (1 + 4 * k)) (c - (1 + 4 * k)) B wr hrk (by simp) (by omega) (by omega) (by omega))
        have hwl := Frm.word_lt b (1 + 4 * k)
        rw [show Num.tf 0 ((b.drop (1 + 4 * k)).take 4) = Frm.word b (1 + 4 * k) from rfl] at HT
        have HM := hide hmem
        obtain ⟨u, c2⟩ : ∃ u, wr.cell? ⟨w.heap.size + 1, k, none⟩ = some u := ⟨_, (hmem.blk0.cell k).trans (Array.getElem?_eq_getElem (by simp [Frm.nats4, Frm.heads_len]; exact hlt))⟩
        have f2 := hmem.blk0.frozen k
        have s1 : (0 : Int) ≤ 1 + 4 * (k : Int) := by omega
        have s2 : 1 + 4 * (k : Int) ≤ (b.length : Int) := by omega
        have s3 : 1 + 4 * (k : Int) ≤ (c : Int) := by omega
        have HS := hide (Frm.heads_set b k hlt)
        generalize Frm.word b (1 + 4 * k) = x at HT hwl HS
        clear hmem
        go_wp2_with (go_at_call 28; refine (unhide HT).mono ?_; rintro _ w' ⟨rfl, rfl⟩)
        go_roundw
        case rel => exact ⟨k + 1, by omega, by go_num, by
          have h := (unhide HM).set0 (i := k) (v := .int .i64 (x : Int))
          rw [Frm.nats_set, unhide HS] at h
          exact h⟩
        case measure => simp [intOf]; omega
      · obtain rfl : k = 4 := by omega
        have d0 : wr.cell? ⟨w.heap.size + 1, 0, none⟩ = some (.int .i64 (Frm.word b 1 : Int)) := hmem.blk0.cell 0
        have d1 : wr.cell? ⟨w.heap.size + 1, 1, none⟩ = some (.int .i64 (Frm.word b 5 : Int)) := hmem.blk0.cell 1
        have d2 : wr.cell? ⟨w.heap.size + 1, 2, none⟩ = some (.int .i64 (Frm.word b 9 : Int)) := hmem.blk0.cell 2
        have d3 : wr.cell? ⟨w.heap.size + 1, 3, none⟩ = some (.int .i64 (Frm.word b 13 : Int)) := hmem.blk0.cell 3
        have HM := hide hmem
        have hrw := hr.below (hmem.below.mono hB)
        clear hmem
        go_wp2_with (refine wpList_store_blk rfl 24 (.tmp 2) (.tmp 55) rfl (w.heap.size) _ (by rfl) (by rfl) 24 _ (unhide HM).blk1 (by kernel_rfl) (by rfl) (Frm.cells_one 0 0 0 0 none 0 0) ?_; intro w1 hbS hgS; have HM1 := hide ((unhide HM).grown1 hbS hgS); have HGw1 := hide hgS; clear hbS hgS)
        exact ret_frame rfl w.heap.size _ rfl (by rfl) (unhide HM1).blk1 (by rfl) (by exact freshF_zero (unhide HM1).below 2)
  | sum v r hb h0 h1 h2 h3 =>
    obtain ⟨ad, rfl, _, hcl⟩ := hr (by rw [hb]; simp)
    have c0 := hcl 0 v (by rw [hb]; rfl)
    have hp : 0 < b.length := by rw [hb]; simp
    have c1 : ∀ o, (w.alloc o).cell? ad = some (.int .u8 (v.toNat : Int)) := fun o => (World.cell?_alloc_lt _ _ _ (by omega)).trans c0
    have hv : ((v.toNat : Int) == 0) = false := beq_eq_false_iff_ne.2 (by omega)
    have HMs := hide ((unhide HM0).new (t := 48) (cs := Frm.nats4 (Frm.heads b 0)) (w.heap.size + 1) (by simp))
    have h17 : 17 ≤ b.length := by omega
    clear hb hcl
    go_enter Try.func23, Try.ntmps23
    go_wp2_with fail
    go_loopw [26] (fun i wr => ∃ k : Nat, k ≤ 4 ∧ i = .int .i64 k ∧ Mem w wr [(w.heap.size + 1, 48, Frm.nats4 (Frm.heads b k)), (w.heap.size, 24, Frm.cells 0 0 0 0 (.slice none 0 0))]) (fun i _ => 4 - (intOf i).toNat)
    case atStart => exact ⟨0, by omega, rfl, unhide HMs⟩
    case round =>
      obtain ⟨k, hk, rfl, hmem⟩ := hrel
      by_cases hlt : k < 4
      · have hrk : RdB wr B (some (ad.add (1 + 4 * k))) (b.drop (1 + 4 * k)) := (hr.below (hmem.below.mono hB)).off (1 + 4 * k)
        have HT := hide (takeFixed4 (b.drop (1 + 4 * k)) (some (ad.add (1 + 4 * k))) (b.length - (1 + 4 * k)) (c - (1 + 4 * k)) B wr hrk (by simp) (by omega) (by omega) (by omega))
        have hwl := Frm.word_lt b (1 + 4 * k)
        rw [show Num.tf 0 ((b.drop (1 + 4 * k)).take 4) = Frm.word b (1 + 4 * k) from rfl] at HT
        have HM := hide hmem
        obtain ⟨u, c2⟩ : ∃ u, wr.cell? ⟨w.heap.size + 1, k, none⟩ = some u := ⟨_, (hmem.blk0.cell k).trans (Array.getElem?_eq_getElem (by simp [Frm.nats4, Frm.heads_len]; exact hlt))⟩
        have f2 := hmem.blk0.frozen k
        have s1 : (0 : Int) ≤ 1 + 4 * (k : Int) := by omega
        have s2 : 1 + 4 * (k : Int) ≤ (b.length : Int) := by omega
        have s3 : 1 + 4 * (k : Int) ≤ (c : Int) := by omega
        have HS := hide (Frm.heads_set b k hlt)
        generalize Frm.word b (1 + 4 * k) = x at HT hwl HS
        clear hmem
        go_wp2_with (go_at_call 28; refine (unhide HT).mono ?_; rintro _ w' ⟨rfl, rfl⟩)
        go_roundw
        case rel => exact ⟨k + 1, by omega, by go_num, by
          have h := (unhide HM).set0 (i := k) (v := .int .i64 (x : Int))
          rw [Frm.nats_set, unhide HS] at h
          exact h⟩
        case measure => simp [intOf]; omega
      · obtain rfl : k = 4 := by omega
        have d0 : wr.cell? ⟨w.heap.size + 1, 0, none⟩ = some (.int .i64 (Frm.word b 1 : Int)) := hmem.blk0.cell 0
        have d1 : wr.cell? ⟨w.heap.size + 1, 1, none⟩ = some (.int .i64 (Frm.word b 5 : Int)) := hmem.blk0.cell 1
        have d2 : wr.cell? ⟨w.heap.size + 1, 2, none⟩ = some (.int .i64 (Frm.word b 9 : Int)) := hmem.blk0.cell 2
        have d3 : wr.cell? ⟨w.heap.size + 1, 3, none⟩ = some (.int .i64 (Frm.word b 13 : Int)) := hmem.blk0.cell 3
        have HM := hide hmem
        have hrw := hr.below (hmem.below.mono hB)
        clear hmem
        obtain ⟨n, hn⟩ : ∃ n, Frm.word b 13 = n := ⟨_, rfl⟩
        rw [hn] at d3 h1 h2 h3
        have hqe : Hid (Frm.crc b = (Crc.more 0#32 (b.take (17 + n))).toNat) := hide (by rw [Frm.crc, hn])
        have HO := hide (of_n (b.take (17 + n)) (some ad) (17 + n) c B wr (hrw.take (17 + n)) (by simp; omega) (by omega))
        have HN := hide hn
        have s1 : (17 : Int) + (n : Int) ≤ (c : Int) := by omega
        have s2 : (17 : Int) + (n : Int) + 4 ≤ (c : Int) := by omega
        have H3 := hide h3
        clear hn h3
        go_wp2_with (go_at_call 20; refine (unhide HO).mono ?_; rintro _ w' ⟨rfl, rfl⟩)
        have hq32 : (Crc.more 0#32 (b.take (17 + n))).toNat < 4294967296 := (Crc.more 0#32 (b.take (17 + n))).isLt
        generalize (Crc.more 0#32 (b.take (17 + n))).toNat = q at hq32 hqe ⊢
        clear HO hrw d0 d1 d2 d3
        go_loopw [66] (fun i wx => ∃ k : Nat, k ≤ 4 ∧ i = .int .i64 k ∧ Mem w wx [(w.heap.size + 1, 48, Frm.nats4 (Frm.heads b 4)), (w.heap.size, 24, Frm.cells 0 0 0 0 (.slice none 0 0))] ∧ ∀ j, j < k → b[17 + n + j]? = some (UInt8.ofNat (q / 256 ^ j))) (fun i _ => 4 - (intOf i).toNat)
        case atStart => exact ⟨0, by omega, rfl, unhide HM, fun j hj => by omega⟩
        case round =>
          obtain ⟨k, hk, rfl, hmem, hall⟩ := hrel
          have HM := hide hmem
          have hrw := hr.below (hmem.below.mono hB)
          have HALL := hide hall
          clear hmem hall
          by_cases hlt : k < 4
          · obtain ⟨u, hu⟩ : ∃ u, b[17 + n + k]? = some u := ⟨_, List.getElem?_eq_getElem (by omega)⟩
            obtain ⟨_, e0, _, hcl⟩ := hrw (by omega)
            have c5 := hcl _ u hu
            rw [← Option.some.inj e0] at c5
            simp only [Bv] at c5
            have c6 : wr.cell? ((ad.add (17 + n)).add k) = some (.int .u8 (u.toNat : Int)) := by rw [Addr.add_add]; exact c5
            have e8 := Num.bv_shr q k
            simp only [Bv, Value.int.injEq, true_and] at e8
            have HU := hide hu
            clear hcl hu e0
            by_cases hue : u = UInt8.ofNat (q / 256 ^ k)
            · have fx : ((u.toNat : Int) != (q : Int) / 2 ^ (8 * k) % 256) = false := by rw [e8, hue]; simp
              have HUE := hide hue
              clear hue e8
              go_wp2_with fail
              go_roundw
              case rel => exact ⟨k + 1, by omega, by go_num, unhide HM, fun j hj => by
                rcases Nat.lt_or_ge j k with h | h
                · exact (unhide HALL) j h
                · obtain rfl : j = k := by omega
                  rw [unhide HU, unhide HUE]⟩
              case measure => simp [intOf]; omega
            · have fx : ((u.toNat : Int) != (q : Int) / 2 ^ (8 * k) % 256) = true := by
                rw [e8]
                simp only [bne_iff_ne, ne_eq]
                intro h
                exact hue (UInt8.toNat_inj.1 (by omega))
              clear hue e8
              go_wp2_with (refine wpList_store_blk rfl 24 (.tmp 2) (.tmp 78) rfl (w.heap.size) _ (by rfl) (by rfl) 24 _ (unhide HM).blk1 (by kernel_rfl) (by rfl) (Frm.cells_one 0 0 0 0 none 0 0) ?_; intro w1 hbS hgS; have HM1 := hide ((unhide HM).grown1 hbS hgS); have HGw1 := hide hgS; clear hbS hgS)
              exact ret_frame rfl w.heap.size _ rfl (by rfl) (unhide HM1).blk1 (by rfl) (by exact freshF_zero (unhide HM1).below 4)
          · obtain rfl : k = 4 := by omega
            exact absurd (by rw [unhide hqe]; exact Frm.take4_eq b (17 + n) q (unhide HALL)) (unhide H3)
  | ok v r hb h0 h1 h2 h3 =>
    obtain ⟨ad, rfl, _, hcl⟩ := hr (by rw [hb]; simp)
    have c0 := hcl 0 v (by rw [hb]; rfl)
    have hp : 0 < b.length := by rw [hb]; simp
    have c1 : ∀ o, (w.alloc o).cell? ad = some (.int .u8 (v.toNat : Int)) := fun o => (World.cell?_alloc_lt _ _ _ (by omega)).trans c0
    have hv : ((v.toNat : Int) == 0) = false := beq_eq_false_iff_ne.2 (by omega)
    have HMs := hide ((unhide HM0).new (t := 48) (cs := Frm.nats4 (Frm.heads b 0)) (w.heap.size + 1) (by simp))
    have h17 : 17 ≤ b.length := by omega
    clear hb hcl
    go_enter Try.func23, Try.ntmps23
    go_wp2_with fail
    go_loopw [26] (fun i wr => ∃ k : Nat, k ≤ 4 ∧ i = .int .i64 k ∧ Mem w wr [(w.heap.size + 1, 48, Frm.nats4 (Frm.heads b k)), (w.heap.size, 24, Frm.cells 0 0 0 0 (.slice none 0 0))]) (fun i _ => 4 - (intOf i).toNat)
    case atStart => exact ⟨0, by omega, rfl, unhide HMs⟩
    case round =>
      obtain ⟨k, hk, rfl, hmem⟩ := hrel
      by_cases hlt : k < 4
      · have hrk : RdB wr B (some (ad.add (1 + 4 * k))) (b.drop (1 + 4 * k)) := (hr.below (hmem.below.mono hB)).off (1 + 4 * k)
        have HT := hide (takeFixed4 (b.drop (1 + 4 * k)) (some (ad.add (1 + 4 * k))) (b.length - (1 + 4 * k)) (c - (1 + 4 * k)) B wr hrk (by simp) (by omega) (by omega) (by omega))
        have hwl := Frm.word_lt b (1 + 4 * k)
        rw [show Num.tf 0 ((b.drop (1 + 4 * k)).take 4) = Frm.word b (1 + 4 * k) from rfl] at HT
        have HM := hide hmem
        obtain ⟨u, c2⟩ : ∃ u, wr.cell? ⟨w.heap.size + 1, k, none⟩ = some u := ⟨_, (hmem.blk0.cell k).trans (Array.getElem?_eq_getElem (by simp [Frm.nats4, Frm.heads_len]; exact hlt))⟩
        have f2 := hmem.blk0.frozen k
        have s1 : (0 : Int) ≤ 1 + 4 * (k : Int) := by omega
        have s2 : 1 + 4 * (k : Int) ≤ (b.length : Int) := by omega
        have s3 : 1 + 4 * (k : Int) ≤ (c : Int) := by omega
        have HS := hide (Frm.heads_set b k hlt)
        generalize Frm.word b (1 + 4 * k) = x at HT hwl HS
        clear hmem
        go_wp2_with (go_at_call 28; refine (unhide HT).mono ?_; rintro _ w' ⟨rfl, rfl⟩)
        go_roundw
        case rel => exact ⟨k + 1, by omega, by go_num, by
          have h := (unhide HM).set0 (i := k) (v := .int .i64 (x : Int))
          rw [Frm.nats_set, unhide HS] at h
          exact h⟩
        case measure => simp [intOf]; omega
      · obtain rfl : k = 4 := by omega
        have d0 : wr.cell? ⟨w.heap.size + 1, 0, none⟩ = some (.int .i64 (Frm.word b 1 : Int)) := hmem.blk0.cell 0
        have d1 : wr.cell? ⟨w.heap.size + 1, 1, none⟩ = some (.int .i64 (Frm.word b 5 : Int)) := hmem.blk0.cell 1
        have d2 : wr.cell? ⟨w.heap.size + 1, 2, none⟩ = some (.int .i64 (Frm.word b 9 : Int)) := hmem.blk0.cell 2
        have d3 : wr.cell? ⟨w.heap.size + 1, 3, none⟩ = some (.int .i64 (Frm.word b 13 : Int)) := hmem.blk0.cell 3
        have HM := hide hmem
        have hrw := hr.below (hmem.below.mono hB)
        clear hmem
        obtain ⟨n, hn⟩ : ∃ n, Frm.word b 13 = n := ⟨_, rfl⟩
        rw [hn] at d3 h1 h2 h3
        have hqe : Hid (Frm.crc b = (Crc.more 0#32 (b.take (17 + n))).toNat) := hide (by rw [Frm.crc, hn])
        have HO := hide (of_n (b.take (17 + n)) (some ad) (17 + n) c B wr (hrw.take (17 + n)) (by simp; omega) (by omega))
        have HN := hide hn
        have s1 : (17 : Int) + (n : Int) ≤ (c : Int) := by omega
        have s2 : (17 : Int) + (n : Int) + 4 ≤ (c : Int) := by omega
        have H3 := hide h3
        clear hn h3
        go_wp2_with (go_at_call 20; refine (unhide HO).mono ?_; rintro _ w' ⟨rfl, rfl⟩)
        have hq32 : (Crc.more 0#32 (b.take (17 + n))).toNat < 4294967296 := (Crc.more 0#32 (b.take (17 + n))).isLt
        generalize (Crc.more 0#32 (b.take (17 + n))).toNat = q at hq32 hqe ⊢
        clear HO hrw d0 d1 d2 d3
        go_loopw [66] (fun i wx => ∃ k : Nat, k ≤ 4 ∧ i = .int .i64 k ∧ Mem w wx [(w.heap.size + 1, 48, Frm.nats4 (Frm.heads b 4)), (w.heap.size, 24, Frm.cells 0 0 0 0 (.slice none 0 0))] ∧ ∀ j, j < k → b[17 + n + j]? = some (UInt8.ofNat (q / 256 ^ j))) (fun i _ => 4 - (intOf i).toNat)
        case atStart => exact ⟨0, by omega, rfl, unhide HM, fun j hj => by omega⟩
        case round =>
          obtain ⟨k, hk, rfl, hmem, hall⟩ := hrel
          have HM := hide hmem
          have hrw := hr.below (hmem.below.mono hB)
          have HALL := hide hall
          clear hmem hall
          by_cases hlt : k < 4
          · obtain ⟨u, hu⟩ : ∃ u, b[17 + n + k]? = some u := ⟨_, List.getElem?_eq_getElem (by omega)⟩
            obtain ⟨_, e0, _, hcl⟩ := hrw (by omega)
            have c5 := hcl _ u hu
            rw [← Option.some.inj e0] at c5
            simp only [Bv] at c5
            have c6 : wr.cell? ((ad.add (17 + n)).add k) = some (.int .u8 (u.toNat : Int)) := by rw [Addr.add_add]; exact c5
            have e8 := Num.bv_shr q k
            simp only [Bv, Value.int.injEq, true_and] at e8
            have HU := hide hu
            clear hcl hu e0
            have hue : u = UInt8.ofNat (q / 256 ^ k) := Option.some.inj ((unhide HU).symm.trans (Frm.take4_get b (17 + n) q ((unhide H3).trans (by rw [unhide hqe])) k hlt))
            have fx : ((u.toNat : Int) != (q : Int) / 2 ^ (8 * k) % 256) = false := by rw [e8, hue]; simp
            have HUE := hide hue
            clear hue e8
            go_wp2_with fail
            go_roundw
            case rel => exact ⟨k + 1, by omega, by go_num, unhide HM, fun j hj => by
              rcases Nat.lt_or_ge j k with h | h
              · exact (unhide HALL) j h
              · obtain rfl : j = k := by omega
                rw [unhide HU, unhide HUE]⟩
            case measure => simp [intOf]; omega
          · obtain rfl : k = 4 := by omega
            go_wp2_with fail
            have hM1 := hide (unhide HM).drop1
            have g1 := fun (wx : World) (h : Mem w wx [(w.heap.size + 1, 48, Frm.nats4 (Frm.heads b 4))]) => ((h.below.cell (p := ad) (by omega)).trans c0 : wx.cell? ad = some (.int .u8 (v.toNat : Int)))
            have hvl : v.toNat < 256 := v.toNat_lt
            have hw1 : IntKind.i64.wrap (17 + (n : Int) + 4) = 17 + (n : Int) + 4 := by rw [IntKind.wrap_i64]; omega
            have hw2 : IntKind.i64.wrap (v.toNat : Int) = (v.toNat : Int) := by rw [IntKind.wrap_i64]; omega
            have g2 := fun (wx : World) (h : Mem w wx [(w.heap.size + 1, 48, Frm.nats4 (Frm.heads b 4))]) => (⟨h.blk0.cell 0, h.blk0.cell 1, h.blk0.cell 2⟩ : wx.cell? ⟨w.heap.size + 1, 0, none⟩ = some (.int .i64 (Frm.word b 1 : Int)) ∧ wx.cell? ⟨w.heap.size + 1, 1, none⟩ = some (.int .i64 (Frm.word b 5 : Int)) ∧ wx.cell? ⟨w.heap.size + 1, 2, none⟩ = some (.int .i64 (Frm.word b 9 : Int)))
            have s5 : (0 : Int) < (b.length : Int) := by omega
            have s6 : (17 : Int) ≤ 17 + (n : Int) := by omega
            have hbl : ((b.drop 17).take n).length = n := by simp; omega
            have HX := hide ((hrw.off 17).take n).v
            have hlt1 := (unhide HM).blk0.lt
            clear HMs HALL hrw c1 hbl
            generalize hbd : (b.drop 17).take n = bd at HX
            have hbl : Hid (bd.length = n) := hide (by rw [← hbd]; simp; omega)
            have HBD := hide hbd
            clear hbd
            go_region_held3 (fun wx => Mem w wx [(w.heap.size + 1, 48, Frm.nats4 (Frm.heads b 4))]) (first | with_reducible exact (unhide hM1).drew | with_reducible exact unhide hM2 | with_reducible exact (unhide HM3).set1.set1.set1.set1.set1.drop1 | fail)
              ((refine step_append_any _ rfl (.const (.slice none 0 0)) (.tmp 92) _ rfl (w.heap.size + 1 + 1) 5 i0 _ 1 1 Try.underlying22 hi hz0 hz1 hz2 rfl (by omega) _ 0 [] (by rfl) (own_nil _ _ _ _) B (some (ad.add 17)) n (c - 17) _ (by simp [Act.eval]; exact ⟨by rw [if_neg (by omega)]; rfl, by omega⟩) (unhide HX) (by rw [List.length_map, Nat.mul_one]; exact unhide hbl) oneCell_Bv (by simp only [maxLen]; omega) (by omega) hlt1 ?_
                intro A3 c3 w3 hown3 hg3 hat3 hbel3 hcc3
                rw [Nat.zero_add, List.nil_append] at hown3
                rw [Nat.zero_add] at hcc3 ⊢
                have HO3 := hide hown3
                have HM3 := hide ((unhide HM).drew.low hbel3 (by simp; omega) (by omega))
                have hM2 := hide (unhide HM3).drop1
                have fc := Frm.cellsAt (unhide HM3).blk1
                have ff := Frm.frozenAt (unhide HM3).blk1
                clear hown3 hg3 hat3 hbel3))
            all_goals go_wp2_with fail
            have HMF := hide (((unhide HM3).set1 (i := 0) (v := .int .i64 (v.toNat : Int))).set1 (i := 1) (v := .int .i64 (Frm.word b 1 : Int)) |>.set1 (i := 2) (v := .int .i64 (Frm.word b 5 : Int)) |>.set1 (i := 3) (v := .int .i64 (Frm.word b 9 : Int)) |>.set1 (i := 4) (v := .slice A3 n c3) |>.as1 (cs' := Frm.cells (v.toNat : Int) (Frm.word b 1 : Int) (Frm.word b 5 : Int) (Frm.word b 9 : Int) (.slice A3 n c3)) (by rfl))
            refine ret_frame rfl w.heap.size _ rfl (by rfl) (unhide HMF).blk1 (by rfl) ?_
            have hgb : (Frm.got b v).body = bd := by rw [← unhide HBD, Frm.got, unhide HN]
            refine ⟨A3, c3, ?_, ?_, (unhide HMF).below, ?_⟩
            · unfold Frm.val
              rw [show ((Frm.got b v, Frm.word b 13 + 21, (0 : Int)) : Frm.F × Nat × Int).1 = Frm.got b v from rfl, hgb, unhide hbl, unhide HN]
              have e1 : (17 : Int) + (n : Int) + 4 = ((n + 21 : Nat) : Int) := by omega
              rw [← e1]
              rfl
            · rw [show ((Frm.got b v, Frm.word b 13 + 21, (0 : Int)) : Frm.F × Nat × Int).1 = Frm.got b v from rfl, hgb, unhide hbl]
              have h := ownsRow_setCell_below (ownsRow_setCell_below (ownsRow_setCell_below (ownsRow_setCell_below (ownsRow_setCell_below (unhide HO3) (a := ⟨w.heap.size, 0, none⟩) (by simp; omega) (.int .i64 (v.toNat : Int))) (a := ⟨w.heap.size, 1, none⟩) (by simp; omega) (.int .i64 (Frm.word b 1 : Int))) (a := ⟨w.heap.size, 2, none⟩) (by simp; omega) (.int .i64 (Frm.word b 5 : Int))) (a := ⟨w.heap.size, 3, none⟩) (by simp; omega) (.int .i64 (Frm.word b 9 : Int))) (a := ⟨w.heap.size, 4, none⟩) (by simp; omega) (.slice A3 n c3)
              exact own_more h (fun q hq => by have := (h.lt q hq).1; omega)
            · rw [show ((Frm.got b v, Frm.word b 13 + 21, (0 : Int)) : Frm.F × Nat × Int).1 = Frm.got b v from rfl, hgb, unhide hbl]
              exact hcc3
end Go.Proofs.Ytjlmcjegfbnhpaa
