/- A nil table (CoordNone). -/
import Derived.Test.YtcljendidhfobaaCoFew
import Derived.Test.YtcljendidhfobaaCoAwake
import Derived.Test.YtcljendidhfobaaCoEnd
namespace Go.Proofs.Ytcljendidhfobaa
set_option linter.unusedVariables false
open Go.RowKit

theorem InShs.more {w : World} {B B' : Nat} {A : Option Addr} {c : Nat} {l : List Sq} (h : InShs w B A c l) (hB : B ≤ B') : InShs w B' A c l := ⟨h.at_.more fun k hk => Nat.lt_of_lt_of_le hk hB, h.cap, h.room, h.caps⟩
theorem writes_nil (tx : Int) (w : World) : Calls Try.prog 12 #[.pointer none, .int .u64 tx] w fun e w' => e = .returned (.slice none 0 0) ∧ w = w' := by
  go_enter Try.func12, Try.ntmps12
  go_wp2_with fail
  go_ret
  exact ⟨rfl, rfl⟩
theorem nodes_nil (tx : Int) (w : World) : Calls Try.prog 14 #[.pointer none, .int .u64 tx] w fun e w' => e = .returned (.slice none 0 0) ∧ w = w' := by
  go_enter Try.func14, Try.ntmps14
  go_wp2_with fail
  go_ret
  exact ⟨rfl, rfl⟩
theorem touches_nil (lo hi : ByteArray) (w : World) : Calls Try.prog 28 #[.pointer none, .string lo, .string hi] w fun e w' => e = .returned (.bool false) ∧ w = w' := by
  go_enter Try.func28, Try.ntmps28
  go_wp2_with fail
  go_ret
  exact ⟨rfl, rfl⟩
theorem copAt {w : World} {g : Nat} {t : TypeId} {kd tx tt nd : Int} {A : Option Addr} {n c : Nat} {lo hi : ByteArray} (h : Blk w g t #[.int .i64 kd, .int .u64 tx, .int .u64 tt, .int .i64 nd, .slice A n c, .string lo, .string hi]) :
    w.cell? ⟨g, 0, none⟩ = some (.int .i64 kd) ∧ w.cell? ⟨g, 1, none⟩ = some (.int .u64 tx) ∧ w.cell? ⟨g, 2, none⟩ = some (.int .u64 tt) ∧ w.cell? ⟨g, 3, none⟩ = some (.int .i64 nd) ∧ w.cell? ⟨g, 4, none⟩ = some (.slice A n c) ∧ w.cell? ⟨g, 5, none⟩ = some (.string lo) ∧ w.cell? ⟨g, 6, none⟩ = some (.string hi) :=
  ⟨h.cell 0, h.cell 1, h.cell 2, h.cell 3, h.cell 4, h.cell 5, h.cell 6⟩
def OpS (g : Nat) (o : COp) (u : World) : Prop := u.cell? ⟨g, 1, none⟩ = some (.int .u64 o.tx) ∧ u.cell? ⟨g, 2, none⟩ = some (.int .u64 o.t) ∧ u.cell? ⟨g, 4, none⟩ = some (.slice o.A o.l.length o.c) ∧ u.cell? ⟨g, 5, none⟩ = some (.string o.lo) ∧ u.cell? ⟨g, 6, none⟩ = some (.string o.hi)
set_option maxHeartbeats 8000000 in
set_option maxRecDepth 20000 in
theorem coordNone_any (o : COp) (w : World) (ho : o.Ok w w.heap.size) :
    Calls Try.prog 7 #[.agg o.cells.toArray] w fun e w' => e = .returned (.bool true) ∧ Below w.heap.size w w' := by
  obtain ⟨kd, tx, t, nd, A, c, l, lo, hi⟩ := o
  show Calls _ _ #[.agg #[.int .i64 kd, .int .u64 tx, .int .u64 t, .int .i64 nd, .slice A l.length c, .string lo, .string hi]] _ _
  have HA := hide awake_any
  have hbk : Blk (w.alloc (.cells #[.int .i64 kd, .int .u64 tx, .int .u64 t, .int .i64 nd, .slice A l.length c, .string lo, .string hi] 44)) w.heap.size 44 #[.int .i64 kd, .int .u64 tx, .int .u64 t, .int .i64 nd, .slice A l.length c, .string lo, .string hi] := Blk.new _ _ _
  have hb0 : Below w.heap.size w (w.alloc (.cells #[.int .i64 kd, .int .u64 tx, .int .u64 t, .int .i64 nd, .slice A l.length c, .string lo, .string hi] 44)) := (Below.refl _ _).alloc (Nat.le_refl _) _
  have hin := ho.shs.below hb0
  obtain ⟨w0, hw0⟩ : ∃ u, w.alloc (.cells #[.int .i64 kd, .int .u64 tx, .int .u64 t, .int .i64 nd, .slice A l.length c, .string lo, .string hi] 44) = u := ⟨_, rfl⟩
  have HW0 := hide hw0
  rw [hw0] at hbk hb0 hin
  obtain ⟨d0, d1, d2, d3, d4, d5, d6⟩ := copAt hbk
  have HBK := hide hbk
  have HB0 := hide hb0
  have HIN := hide hin
  have hgl := hbk.lt
  clear ho hbk hb0 hin
  go_enter Try.func7, Try.ntmps7
  go_upto_region 4 with (first
    | (go_at_call 16; refine (vote_nil _ _ _ _).mono ?_; rintro _ w1 ⟨rfl, rfl⟩)
    | (go_at_call 17; refine (end_nil _ _ _).mono ?_; rintro _ w1 ⟨rfl, rfl⟩))
  have fS : w0.drew.cell? ⟨w.heap.size, 1, none⟩ = some (.int .u64 tx) ∧ w0.drew.cell? ⟨w.heap.size, 2, none⟩ = some (.int .u64 t) ∧ w0.drew.cell? ⟨w.heap.size, 4, none⟩ = some (.slice A l.length c) ∧ w0.drew.cell? ⟨w.heap.size, 5, none⟩ = some (.string lo) ∧ w0.drew.cell? ⟨w.heap.size, 6, none⟩ = some (.string hi) := ⟨d1, d2, d4, d5, d6⟩
  have HB0d := hide ((unhide HB0).trans (below_drewN' (Below.refl _ _) 1))
  have HBKd : Hid (Blk w0.drew w.heap.size 44 #[.int .i64 kd, .int .u64 tx, .int .u64 t, .int .i64 nd, .slice A l.length c, .string lo, .string hi]) := hide (unhide HBK)
  have hsz := (unhide HB0).size
  clear hw0 d0 d1 d2 d3 d4 d5 d6
  go_region_held3 (fun u => u.cell? ⟨w.heap.size, 1, none⟩ = some (.int .u64 tx) ∧ u.cell? ⟨w.heap.size, 2, none⟩ = some (.int .u64 t) ∧ u.cell? ⟨w.heap.size, 4, none⟩ = some (.slice A l.length c) ∧ u.cell? ⟨w.heap.size, 5, none⟩ = some (.string lo) ∧ u.cell? ⟨w.heap.size, 6, none⟩ = some (.string hi)) (first | assumption | exact fS | exact fS1 | exact fS2 | go_keep)
    (first
      | (go_at_call 11; go_must ((
         refine (unhide HA _).mono ?_
         rintro _ w1 ⟨rfl, hb1⟩
         have hk1 := (unhide HBKd).below hb1 (unhide HBKd).lt
         have fo1 := copAt hk1
         have fS1 := (⟨fo1.2.1, fo1.2.2.1, fo1.2.2.2.2.1, fo1.2.2.2.2.2.1, fo1.2.2.2.2.2.2⟩ : w1.cell? ⟨w.heap.size, 1, none⟩ = some (.int .u64 tx) ∧ w1.cell? ⟨w.heap.size, 2, none⟩ = some (.int .u64 t) ∧ w1.cell? ⟨w.heap.size, 4, none⟩ = some (.slice A l.length c) ∧ w1.cell? ⟨w.heap.size, 5, none⟩ = some (.string lo) ∧ w1.cell? ⟨w.heap.size, 6, none⟩ = some (.string hi))
         have HK1 := hide hk1; have HB1 := hide ((unhide HB0d).trans (hb1.mono hsz))
         have HIN1 := hide (((unhide HIN).below (below_drewN' (Below.refl _ _) 1)).below (hb1.mono hsz))
         clear hb1 hk1 fo1)))
      | (go_at_call 9; go_must ((
         refine (few_any A c l _ ((unhide HIN1).more (unhide HB1).size)).mono ?_
         rintro _ w2 ⟨A2, c2, rfl, ho2, hc2, hb2⟩
         have hk2 := (unhide HK1).below hb2 (unhide HK1).lt
         have fo2 := copAt hk2
         have fS2 := (⟨fo2.2.1, fo2.2.2.1, fo2.2.2.2.2.1, fo2.2.2.2.2.2.1, fo2.2.2.2.2.2.2⟩ : w2.cell? ⟨w.heap.size, 1, none⟩ = some (.int .u64 tx) ∧ w2.cell? ⟨w.heap.size, 2, none⟩ = some (.int .u64 t) ∧ w2.cell? ⟨w.heap.size, 4, none⟩ = some (.slice A l.length c) ∧ w2.cell? ⟨w.heap.size, 5, none⟩ = some (.string lo) ∧ w2.cell? ⟨w.heap.size, 6, none⟩ = some (.string hi))
         have HB2 := hide ((unhide HB1).trans (hb2.mono (unhide HB1).size))
         clear hb2 hk2 fo2 ho2 hc2)))
      | (go_at_call 10; go_must ((refine (start_nil _ _ _ _).mono ?_; rintro _ w3 ⟨rfl, rfl⟩)))
      | (go_at_call 15; go_must ((refine (len_nil _).mono ?_; rintro _ w3 ⟨rfl, rfl⟩)))
      | (go_at_call 12; go_must ((refine (writes_nil _ _).mono ?_; rintro _ w3 ⟨rfl, rfl⟩)))
      | (go_at_call 14; go_must ((refine (nodes_nil _ _).mono ?_; rintro _ w3 ⟨rfl, rfl⟩)))
      | (go_at_call 28; go_must ((refine (touches_nil _ _ _).mono ?_; rintro _ w3 ⟨rfl, rfl⟩))))
  all_goals go_wp2_with fail
  all_goals
    go_ret
    exact ⟨rfl, unhide HB2⟩
end Go.Proofs.Ytcljendidhfobaa
