/- The walk of NetNone. -/
import Derived.Test.YtbclfiollfagmaaNetIter
import Derived.Test.YtbclfiollfagmaaNetOpen
import Derived.Test.YtbclfiollfagmaaKnown
import Derived.Test.YtbclfiollfagmaaMemIn
import Derived.Test.YtbclfiollfagmaaFrame
namespace Go.Proofs.Ytbclfiollfagmaa
open Go.RowKit Go.Shelf
set_option linter.unusedVariables false
attribute [local go_sem] Oper.semAt_some

theorem opAt {w : World} {g : Nat} {ty : TypeId} {kd f t i at_ : Int} {m : UInt8} {v : Value} (h : Blk w g ty #[.int .i64 kd, .int .i64 f, .int .i64 t, .int .i64 i, .int .i64 at_, .int .u8 (m.toNat : Int), v]) :
    w.cell? ⟨g, 0, none⟩ = some (.int .i64 kd) ∧ w.cell? ⟨g, 1, none⟩ = some (.int .i64 f) ∧ w.cell? ⟨g, 2, none⟩ = some (.int .i64 t) ∧ w.cell? ⟨g, 3, none⟩ = some (.int .i64 i) ∧ w.cell? ⟨g, 4, none⟩ = some (.int .i64 at_) ∧ w.cell? ⟨g, 5, none⟩ = some (.int .u8 (m.toNat : Int)) ∧ w.cell? ⟨g, 6, none⟩ = some v :=
  ⟨h.cell 0, h.cell 1, h.cell 2, h.cell 3, h.cell 4, h.cell 5, h.cell 6⟩
theorem results_cell_bool {P : Program} {fn : Func} {p : Tmp} {ty : TypeId} (h : fn.results = #[.cell p ty]) (hu : P.underlying ty = some .bool) (tmps : Array Value) (w : World) (ad : Addr) (b : Bool)
    (hp : tmps.getD p undef = .pointer (some ad)) (hc : w.cell? ad = some (.bool b)) : (results fn tmps).run P w = .ok (.bool b) w := by
  have hp' : tmps[p]?.getD undef = .pointer (some ad) := by simpa using hp
  simp [results, h, hp', isAgg, run_underlying hu, go_sem, hc]
set_option maxRecDepth 100000 in
set_option maxHeartbeats 4000000 in
theorem netNone_any (o : NOp) (w : World) :
    Calls Try.prog 7 #[.agg o.cells.toArray] w fun e w' => e = .returned (.bool true) ∧ Below w.heap.size w w' := by
  obtain ⟨kd, f, t, i, at_, m, l, A, c⟩ := o
  show Calls _ _ #[.agg #[.int .i64 kd, .int .i64 f, .int .i64 t, .int .i64 i, .int .i64 at_, .int .u8 (m.toNat : Int), .slice A l.length c]] _ _
  have HA := hide awake_any
  have HTK := hide (fun u => take_bad (.pointer none) f t i 1 u (fun v _ => look_nil f t i v) (by omega))
  have HLO := hide (fun u => lose_bad (.pointer none) f t i 1 u (take_bad (.pointer none) f t i 1 u (fun v _ => look_nil f t i v) (by omega)) (by omega))
  have HTW := hide (fun u => twice_bad (.pointer none) f t i 1 u (look_nil f t i u) (by omega))
  have HBA := hide (fun u => back_bad (.pointer none) f t i 1 u (take_bad (.pointer none) f t i 1 u (fun v _ => look_nil f t i v) (by omega)) (by omega))
  have HSP := hide (fun u => spoil_bad (.pointer none) f t i at_ m 1 u (at_nil f t i u) (by omega))
  refine (callsIn_wide (n := 6)).1 ?_
  refine callsIn_of_wp_marks Try.func7 rfl trivial ?_ rfl
  simp only [Try.ntmps7, List.size_toArray, List.length_cons, List.length_nil, Nat.reduceAdd, Nat.reduceSub, Array.replicate_succ, Array.replicate_zero, List.push_toArray, List.append_toArray, List.nil_append, List.cons_append]
  have HM0 := hide (((Mem.start w).new (t := 47) (cs := #[.int .i64 kd, .int .i64 f, .int .i64 t, .int .i64 i, .int .i64 at_, .int .u8 (m.toNat : Int), .slice A l.length c]) w.heap.size rfl).new (t := 4) (cs := #[.bool false]) (w.heap.size + 1) (by simp))
  refine wpIn_wide.2 ?_
  go_wp2_with (first
    | (go_at_call 10; refine (unhide HA _).mono ?_; rintro _ w1 ⟨rfl, hb1⟩; have HM1 := hide ((unhide HM0).called hb1); have fo := opAt (unhide HM1).blk1; clear hb1)
    | (go_at_call 17; refine (look_nil _ _ _ _).mono ?_; rintro _ w2 ⟨rfl, hb2⟩; have HM2 := hide (((unhide HM1).called hb2).new (t := 36) (cs := #[.slice none 0 0, .bool false]) w2.heap.size rfl); clear hb2)
    | (refine wpList_store_blk rfl 36 (.tmp 4) (.tmp 19) rfl (w2.heap.size) _ (by rfl) (by rfl) 36 _ (unhide HM2).blk0 (by kernel_rfl) (by rfl) (by simp [Value.oneCell']) ?_; intro w3 hbS hgS; have HM3 := hide ((unhide HM2).grown0 hbS hgS); have HGw3 := hide hgS; clear hbS hgS
       have fo3 := opAt (unhide HM3).blk2)
    | (go_at_call 18; refine (unhide HTK _).mono ?_; rintro _ w4 ⟨rfl, hb4⟩; have HM4 := hide (((unhide HM3).called hb4).new (t := 36) (cs := #[.slice none 0 0, .bool false]) w4.heap.size rfl); clear hb4)
    | (refine wpList_store_blk rfl 36 (.tmp 6) (.tmp 30) rfl (w4.heap.size) _ (by rfl) (by rfl) 36 _ (unhide HM4).blk0 (by kernel_rfl) (by rfl) (by simp [Value.oneCell']) ?_; intro w5 hbS hgS; have HM5 := hide ((unhide HM4).grown0 hbS hgS); have HGw5 := hide hgS; clear hbS hgS; clear fo fo3)
    | (go_at_call 24; refine ((callsIn_wide (n := 5)).1 (ways_in Fence.wide 5 trivial rfl _ _)).mono ?_; rintro e w6 ⟨rfl, rfl⟩))
  refine (wpIn_wide (n := 6)).1 ?_
  gi_wp2
  refine wpIn_rangeFunc_ownF rfl (by omega) (gf := 37) (lb := #[.pointer (some ⟨w5.heap.size, 0, none⟩)]) rfl trivial (enters_of Try.func37 (by kernel_rfl) rfl)
    (ways_stops_nil 5 (by omega) w5.heap.size w5.heap.size _ (by simp) ?hc) KeepU.t (KeepU.b (by simp) (by simp)) (Below.refl _ _) (fun _ => rfl)
    (fun pre W => Below w5.heap.size w5 W) (fun c pre W => False)
    ?hI ?hIx ?h0 ?a1 ?assign ?body ?done ?stop
  case assign =>
    intro l1 x W K hK
    gi_wp2
    exact hK
  case hc => exact (Blk.new w5 _ _).cell 0
  case h0 => exact (Below.refl _ _).alloc (Nat.le_refl _) _
  case hI => exact ownFrom_below (Nat.le_refl _) (by simp)
  case hIx => exact fun c s A B row hs _ _ => hs
  case body =>
    rintro l1 pre x W _ hlen
    exact absurd hlen (Nat.not_lt_zero _)
  case done =>
    rintro D ys W hD rfl hB hK
    have HD := hide hD
    have HK0 := hide hK
    have HM6 := hide ((unhide HM5).called hB)
    have fo6 := opAt (unhide HM6).blk3
    clear hB hK hD
    go_wp2_with (first
      | (go_at_call 10; refine (unhide HA _).mono ?_; rintro _ w7 ⟨rfl, hb7⟩
         have HM7 := hide ((unhide HM6).called hb7); have HK7 := hide ((hb7.block D (Array.getElem?_eq_some_iff.1 (unhide HK0)).1).trans (unhide HK0)); have fo7 := opAt (unhide HM7).blk3; have fp7 := pkAt (unhide HM7).blk1; have fq7 := pkAt (unhide HM7).blk0; clear hb7)
      | (go_at_call 11; refine (send_nil _ _ _ _).mono ?_; rintro _ w8 ⟨rfl, rfl⟩)
      | (go_at_call 25; refine (unhide HLO _).mono ?_; rintro _ w8 ⟨rfl, hb8⟩
         have HM8 := hide ((unhide HM7).called hb8); have HK8 := hide ((hb8.block D (Array.getElem?_eq_some_iff.1 (unhide HK7)).1).trans (unhide HK7)); have fo8 := opAt (unhide HM8).blk3; clear hb8)
      | (go_at_call 14; refine (unhide HTW _).mono ?_; rintro _ w9 ⟨rfl, hb9⟩
         have HM9 := hide ((unhide HM8).called hb9); have HK9 := hide ((hb9.block D (Array.getElem?_eq_some_iff.1 (unhide HK8)).1).trans (unhide HK8)); have fo9 := opAt (unhide HM9).blk3; clear hb9)
      | (go_at_call 15; refine (unhide HBA _).mono ?_; rintro _ w10 ⟨rfl, hb10⟩
         have HM10 := hide ((unhide HM9).called hb10); have HK10 := hide ((hb10.block D (Array.getElem?_eq_some_iff.1 (unhide HK9)).1).trans (unhide HK9)); have fo10 := opAt (unhide HM10).blk3; have z10 := (unhide HM10).blk2.frozen 0; have c10 : w10.cell? ⟨w.heap.size + 1, 0, none⟩ = some (.bool false) := (unhide HM10).blk2.cell 0; clear hb10)
      | (go_at_call 16; refine (unhide HSP _).mono ?_; rintro _ w11 ⟨rfl, rfl⟩)
      | (go_at_call 12; refine (len_nil _ _ _).mono ?_; rintro _ w12 ⟨rfl, rfl⟩)
      | (go_at_call 13; refine (lost_nil _).mono ?_; rintro _ w13 ⟨rfl, rfl⟩))
    have hD := unhide HD
    have hK' := (KeepsOthers.setCell w10 ⟨w.heap.size + 1, 0, none⟩ (.bool true)).same D _ (unhide HK10) rfl
    refine ⟨by simp, .inl ⟨_, _, rfl, run_takeDeferred hK', ?_⟩⟩
    have HM11 := (unhide HM10).set2 (i := 0) (v := .bool true)
    have hc5 := cell_kept (HM11.blk2.cell 0) (grownBy_putObj' _ D (.deferred none)) (fun r e => by cases e; exact ⟨_, hK', rfl⟩)
    refine ⟨.bool true, ?_, rfl, HM11.below.trans (belowK_b (w := w) (Nat.le_refl _) _ D _ (.deferred none) (by have := (unhide HM5).below.size; simp at hD; omega) hK' rfl rfl)⟩
    exact results_cell_bool rfl Try.underlying4 _ _ ⟨w.heap.size + 1, 0, none⟩ true rfl hc5
  case stop =>
    rintro D cd pre W hD _ hix hK
    exact hix.elim
end Go.Proofs.Ytbclfiollfagmaa
