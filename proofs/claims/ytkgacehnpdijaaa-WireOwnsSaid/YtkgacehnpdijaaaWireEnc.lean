/- Encode, of both. -/
import Derived.Test.YtkgacehnpdijaaaWireNewP
import Derived.Test.YtkgacehnpdijaaaWireNewR
import Derived.Test.YtkgacehnpdijaaaWireElder
import Derived.Test.YtkgacehnpdijaaaWireElderR
namespace Go.Proofs.Ytkgacehnpdijaaa
set_option linter.unusedVariables false
open Go.RowKit Wire

/-- what Encode answers -/
def encE (v : Int) (m : Ms) : Int := if v ≠ 1 ∧ v ≠ 2 then 15 else chkOf m
def encB (v : Int) (m : Ms) : List UInt8 := if encE v m = 0 then encOf v m else []
def EncRes (v : Int) (m : Ms) (w : World) (e : Ending) (w' : World) : Prop :=
  ∃ A n c, e = .returned (.tuple #[.slice A n c, .int .i64 (encE v m)]) ∧ (encB v m).length = n ∧ w'.ownsRow w.heap.size 5 1 (.slice A n c) n ((encB v m).map Bv) ∧ Below w.heap.size w w' ∧ n ≤ c
theorem encE_other {v : Int} {m : Ms} (h : v ≠ 1 ∧ v ≠ 2) : encE v m = 15 := if_pos h
theorem encE_one {v : Int} {m : Ms} (h : v = 1 ∨ v = 2) : encE v m = chkOf m := if_neg (by omega)
theorem encB_bad {v : Int} {m : Ms} (h : encE v m ≠ 0) : encB v m = [] := if_neg h
theorem encB_ok {v : Int} {m : Ms} (h : encE v m = 0) : encB v m = encOf v m := if_pos h
theorem enc_none {v : Int} {m : Ms} {w w' : World} (he : encE v m ≠ 0) {E : Int} (hE : encE v m = E) (hb : Below w.heap.size w w') : EncRes v m w (.returned (.tuple #[.slice none 0 0, .int .i64 E])) w' := by
  subst hE
  exact ⟨none, 0, 0, rfl, by rw [encB_bad he]; rfl, by rw [encB_bad he]; exact own_nil _ _ _ _, hb, Nat.le_refl _⟩
theorem enc_some {v : Int} {m : Ms} {w u w' : World} {l : List UInt8} {b : Value} (he : encE v m = 0) (hl : encOf v m = l) (hb : Below w.heap.size w u) (h : NewB u l (.returned b) w') : EncRes v m w (.returned (.tuple #[b, .int .i64 0])) w' := by
  obtain ⟨A, n, c, e, h1, h2, h3, h4⟩ := h
  injection e with e
  subst e
  refine ⟨A, n, c, by rw [he], by rw [encB_ok he, hl]; exact h1, by rw [encB_ok he, hl]; exact own_more h2 fun k hk => Nat.le_trans hb.size (h2.lt k hk).1, hb.trans (h3.mono hb.size), h4⟩
set_option maxHeartbeats 4000000 in
set_option maxRecDepth 20000 in
theorem encode_any (v : Int) (m : Ms) (A : Option Addr) (c : Nat) (vA : Option Addr) (vc : Nat) (B : Nat) (w : World) (hok : Mq.Ok ⟨m, A, c, vA, vc⟩ w B) (hB : B ≤ w.heap.size) : Calls Try.prog 14 #[.int .i64 v, .agg (mcells m A c vA vc)] w (EncRes v m w) := by
  have HM0 := hide ((Mem.start w).new (t := 28) (cs := mcells m A c vA vc) w.heap.size rfl)
  obtain ⟨w1, hw1⟩ : ∃ u, w.alloc (.cells (mcells m A c vA vc) 28) = u := ⟨_, rfl⟩
  rw [hw1] at HM0
  have HOK1 := hide ((hok.below ((unhide HM0).below.mono hB)))
  have HB1 := hide (Nat.le_trans hB (unhide HM0).below.size)
  have HRG := hide (show Rng m from hok.rng)
  clear hok hB
  show Calls _ _ #[.int .i64 v, .agg #[.int .i64 m.kind, .int .u64 m.id, .int .u64 m.n, .int .u64 m.ts, .string m.lo, .string m.hi, .slice A m.vers.length c, .slice vA m.vec.length vc, .int .i64 m.cmd.kind, .int .i64 m.cmd.dc, .int .i64 m.cmd.shard, .int .i64 m.cmd.node, .int .i64 m.cmd.mode, .string m.cmd.key]] _ _
  by_cases hv : v ≠ 1 ∧ v ≠ 2
  · have HE := hide (encE_other (m := m) hv)
    have g1 : (v != 1) = true := by simp [hv.1]
    have g2 : (v != 2) = true := by simp [hv.2]
    clear hv
    go_enter Try.func14, Try.ntmps14
    go_wp2_with fail
    go_ret2
    exact enc_none (by rw [unhide HE]; decide) (unhide HE) (unhide HM0).below
  have hv : v = 1 ∨ v = 2 := by omega
  have HE := hide (encE_one (m := m) hv)
  have HCK : Hid (∀ u, Mq.Ok ⟨m, A, c, vA, vc⟩ u B → B ≤ u.heap.size → Calls Try.prog 17 #[.agg #[.int .i64 m.kind, .int .u64 m.id, .int .u64 m.n, .int .u64 m.ts, .string m.lo, .string m.hi, .slice A m.vers.length c, .slice vA m.vec.length vc, .int .i64 m.cmd.kind, .int .i64 m.cmd.dc, .int .i64 m.cmd.shard, .int .i64 m.cmd.node, .int .i64 m.cmd.mode, .string m.cmd.key]] u fun e w' => e = .returned (.int .i64 (chkOf m)) ∧ Below u.heap.size u w') := fun u h1 h2 => check_any m A c vA vc B u h1 h2
  by_cases hz : chkOf m = 0
  · have HG := hide ((chk_iff m).1 hz)
    have HZ := hide hz
    rw [hz] at HCK
    clear hz
    have HEL : Hid (∀ u, Mq.Ok ⟨m, A, c, vA, vc⟩ u B → B ≤ u.heap.size → Calls Try.prog 28 #[.agg #[.int .i64 m.kind, .int .u64 m.id, .int .u64 m.n, .int .u64 m.ts, .string m.lo, .string m.hi, .slice A m.vers.length c, .slice vA m.vec.length vc, .int .i64 m.cmd.kind, .int .i64 m.cmd.dc, .int .i64 m.cmd.shard, .int .i64 m.cmd.node, .int .i64 m.cmd.mode, .string m.cmd.key]] u (NewB u (eldOf m))) := fun u h1 h2 => elder_any m A c vA vc B u h1 h2 (unhide HG)
    have HNW : Hid (∀ u, Mq.Ok ⟨m, A, c, vA, vc⟩ u B → B ≤ u.heap.size → Calls Try.prog 29 #[.agg #[.int .i64 m.kind, .int .u64 m.id, .int .u64 m.n, .int .u64 m.ts, .string m.lo, .string m.hi, .slice A m.vers.length c, .slice vA m.vec.length vc, .int .i64 m.cmd.kind, .int .i64 m.cmd.dc, .int .i64 m.cmd.shard, .int .i64 m.cmd.node, .int .i64 m.cmd.mode, .string m.cmd.key]] u (NewB u (newOf m))) := fun u h1 h2 => newer_any m A c vA vc B u h1 h2 (unhide HG)
    rcases hv with rfl | rfl
    · have HL := hide (enc1 m (unhide HRG))
      go_enter Try.func14, Try.ntmps14
      go_wp2_with (first
        | refine wpList_load_blk rfl 28 (.tmp 3) rfl (w.heap.size) rfl 28 _ _ ((unhide HM0).blk0) Try.underlying28 rfl (by kernel_rfl) ?_
        | refine wpList_load_blk rfl 28 (.tmp 3) rfl (w.heap.size) rfl 28 _ _ ((unhide HM2).blk0) Try.underlying28 rfl (by kernel_rfl) ?_
        | (go_at_call 17; (with_reducible refine Calls.mono (unhide HCK _ (unhide HOK1) (unhide HB1)) ?_); rintro _ w2 ⟨rfl, hb2⟩
           have HM2 := hide ((unhide HM0).called hb2)
           have HOK2 := hide ((unhide HOK1).below (hb2.mono (unhide HB1)))
           have HB2 := hide (Nat.le_trans (unhide HB1) hb2.size)
           clear hb2)
        | (go_at_call 28; (with_reducible refine Calls.mono (unhide HEL _ (unhide HOK2) (unhide HB2)) ?_); rintro e3 w3 hn
           have HN := hide hn
           obtain ⟨A3, n3, c3, rfl, _⟩ := hn))
      go_ret2
      exact enc_some (by rw [unhide HE, unhide HZ]) (unhide HL) (unhide HM2).below (unhide HN)
    · have HL := hide (enc2 2 (by decide) m)
      go_enter Try.func14, Try.ntmps14
      go_wp2_with (first
        | refine wpList_load_blk rfl 28 (.tmp 3) rfl (w.heap.size) rfl 28 _ _ ((unhide HM0).blk0) Try.underlying28 rfl (by kernel_rfl) ?_
        | refine wpList_load_blk rfl 28 (.tmp 3) rfl (w.heap.size) rfl 28 _ _ ((unhide HM2).blk0) Try.underlying28 rfl (by kernel_rfl) ?_
        | (go_at_call 17; (with_reducible refine Calls.mono (unhide HCK _ (unhide HOK1) (unhide HB1)) ?_); rintro _ w2 ⟨rfl, hb2⟩
           have HM2 := hide ((unhide HM0).called hb2)
           have HOK2 := hide ((unhide HOK1).below (hb2.mono (unhide HB1)))
           have HB2 := hide (Nat.le_trans (unhide HB1) hb2.size)
           clear hb2)
        | (go_at_call 29; (with_reducible refine Calls.mono (unhide HNW _ (unhide HOK2) (unhide HB2)) ?_); rintro e3 w3 hn
           have HN := hide hn
           obtain ⟨A3, n3, c3, rfl, _⟩ := hn))
      go_ret2
      exact enc_some (by rw [unhide HE, unhide HZ]) (unhide HL) (unhide HM2).below (unhide HN)
  · have g6 : (chkOf m != 0) = true := by simp [hz]
    have HZ := hide hz
    clear hz
    rcases hv with rfl | rfl
    all_goals
      go_enter Try.func14, Try.ntmps14
      go_wp2_with (first
        | refine wpList_load_blk rfl 28 (.tmp 3) rfl (w.heap.size) rfl 28 _ _ ((unhide HM0).blk0) Try.underlying28 rfl (by kernel_rfl) ?_
        | (go_at_call 17; (with_reducible refine Calls.mono (unhide HCK _ (unhide HOK1) (unhide HB1)) ?_); rintro _ w2 ⟨rfl, hb2⟩
           have HM2 := hide ((unhide HM0).called hb2)
           clear hb2))
      go_ret2
      exact enc_none (by rw [unhide HE]; exact unhide HZ) (unhide HE) (unhide HM2).below
set_option maxHeartbeats 4000000 in
set_option maxRecDepth 20000 in
theorem rencode_any (v : Int) (m : Ms) (A : Option Addr) (c : Nat) (vA : Option Addr) (vc : Nat) (B : Nat) (w : World) (hok : Mq.Ok ⟨m, A, c, vA, vc⟩ w B) (hB : B ≤ w.heap.size) : Calls Try.prog 15 #[.int .i64 v, .agg (mcells m A c vA vc)] w (EncRes v m w) := by
  have HM0 := hide ((Mem.start w).new (t := 28) (cs := mcells m A c vA vc) w.heap.size rfl)
  obtain ⟨w1, hw1⟩ : ∃ u, w.alloc (.cells (mcells m A c vA vc) 28) = u := ⟨_, rfl⟩
  rw [hw1] at HM0
  have HOK1 := hide ((hok.below ((unhide HM0).below.mono hB)))
  have HB1 := hide (Nat.le_trans hB (unhide HM0).below.size)
  have HRG := hide (show Rng m from hok.rng)
  clear hok hB
  show Calls _ _ #[.int .i64 v, .agg #[.int .i64 m.kind, .int .u64 m.id, .int .u64 m.n, .int .u64 m.ts, .string m.lo, .string m.hi, .slice A m.vers.length c, .slice vA m.vec.length vc, .int .i64 m.cmd.kind, .int .i64 m.cmd.dc, .int .i64 m.cmd.shard, .int .i64 m.cmd.node, .int .i64 m.cmd.mode, .string m.cmd.key]] _ _
  by_cases hv : v ≠ 1 ∧ v ≠ 2
  · have HE := hide (encE_other (m := m) hv)
    have g1 : (v != 1) = true := by simp [hv.1]
    have g2 : (v != 2) = true := by simp [hv.2]
    clear hv
    go_enter Try.func15, Try.ntmps15
    go_wp2_with fail
    go_ret2
    exact enc_none (by rw [unhide HE]; decide) (unhide HE) (unhide HM0).below
  have hv : v = 1 ∨ v = 2 := by omega
  have HE := hide (encE_one (m := m) hv)
  have HCK : Hid (∀ u, Mq.Ok ⟨m, A, c, vA, vc⟩ u B → B ≤ u.heap.size → Calls Try.prog 18 #[.agg #[.int .i64 m.kind, .int .u64 m.id, .int .u64 m.n, .int .u64 m.ts, .string m.lo, .string m.hi, .slice A m.vers.length c, .slice vA m.vec.length vc, .int .i64 m.cmd.kind, .int .i64 m.cmd.dc, .int .i64 m.cmd.shard, .int .i64 m.cmd.node, .int .i64 m.cmd.mode, .string m.cmd.key]] u fun e w' => e = .returned (.int .i64 (chkOf m)) ∧ Below u.heap.size u w') := fun u h1 h2 => rcheck_any m A c vA vc B u h1 h2
  by_cases hz : chkOf m = 0
  · have HG := hide ((chk_iff m).1 hz)
    have HZ := hide hz
    rw [hz] at HCK
    clear hz
    have HEL : Hid (∀ u, Mq.Ok ⟨m, A, c, vA, vc⟩ u B → B ≤ u.heap.size → Calls Try.prog 30 #[.agg #[.int .i64 m.kind, .int .u64 m.id, .int .u64 m.n, .int .u64 m.ts, .string m.lo, .string m.hi, .slice A m.vers.length c, .slice vA m.vec.length vc, .int .i64 m.cmd.kind, .int .i64 m.cmd.dc, .int .i64 m.cmd.shard, .int .i64 m.cmd.node, .int .i64 m.cmd.mode, .string m.cmd.key]] u (NewB u (eldOf m))) := fun u h1 h2 => relder_any m A c vA vc B u h1 h2 (unhide HG)
    have HNW : Hid (∀ u, Mq.Ok ⟨m, A, c, vA, vc⟩ u B → B ≤ u.heap.size → Calls Try.prog 31 #[.agg #[.int .i64 m.kind, .int .u64 m.id, .int .u64 m.n, .int .u64 m.ts, .string m.lo, .string m.hi, .slice A m.vers.length c, .slice vA m.vec.length vc, .int .i64 m.cmd.kind, .int .i64 m.cmd.dc, .int .i64 m.cmd.shard, .int .i64 m.cmd.node, .int .i64 m.cmd.mode, .string m.cmd.key]] u (NewB u (newOf m))) := fun u h1 h2 => rnewer_any m A c vA vc B u h1 h2 (unhide HG)
    rcases hv with rfl | rfl
    · have HL := hide (enc1 m (unhide HRG))
      go_enter Try.func15, Try.ntmps15
      go_wp2_with (first
        | refine wpList_load_blk rfl 28 (.tmp 3) rfl (w.heap.size) rfl 28 _ _ ((unhide HM0).blk0) Try.underlying28 rfl (by kernel_rfl) ?_
        | refine wpList_load_blk rfl 28 (.tmp 3) rfl (w.heap.size) rfl 28 _ _ ((unhide HM2).blk0) Try.underlying28 rfl (by kernel_rfl) ?_
        | (go_at_call 18; (with_reducible refine Calls.mono (unhide HCK _ (unhide HOK1) (unhide HB1)) ?_); rintro _ w2 ⟨rfl, hb2⟩
           have HM2 := hide ((unhide HM0).called hb2)
           have HOK2 := hide ((unhide HOK1).below (hb2.mono (unhide HB1)))
           have HB2 := hide (Nat.le_trans (unhide HB1) hb2.size)
           clear hb2)
        | (go_at_call 30; (with_reducible refine Calls.mono (unhide HEL _ (unhide HOK2) (unhide HB2)) ?_); rintro e3 w3 hn
           have HN := hide hn
           obtain ⟨A3, n3, c3, rfl, _⟩ := hn))
      go_ret2
      exact enc_some (by rw [unhide HE, unhide HZ]) (unhide HL) (unhide HM2).below (unhide HN)
    · have HL := hide (enc2 2 (by decide) m)
      go_enter Try.func15, Try.ntmps15
      go_wp2_with (first
        | refine wpList_load_blk rfl 28 (.tmp 3) rfl (w.heap.size) rfl 28 _ _ ((unhide HM0).blk0) Try.underlying28 rfl (by kernel_rfl) ?_
        | refine wpList_load_blk rfl 28 (.tmp 3) rfl (w.heap.size) rfl 28 _ _ ((unhide HM2).blk0) Try.underlying28 rfl (by kernel_rfl) ?_
        | (go_at_call 18; (with_reducible refine Calls.mono (unhide HCK _ (unhide HOK1) (unhide HB1)) ?_); rintro _ w2 ⟨rfl, hb2⟩
           have HM2 := hide ((unhide HM0).called hb2)
           have HOK2 := hide ((unhide HOK1).below (hb2.mono (unhide HB1)))
           have HB2 := hide (Nat.le_trans (unhide HB1) hb2.size)
           clear hb2)
        | (go_at_call 31; (with_reducible refine Calls.mono (unhide HNW _ (unhide HOK2) (unhide HB2)) ?_); rintro e3 w3 hn
           have HN := hide hn
           obtain ⟨A3, n3, c3, rfl, _⟩ := hn))
      go_ret2
      exact enc_some (by rw [unhide HE, unhide HZ]) (unhide HL) (unhide HM2).below (unhide HN)
  · have g6 : (chkOf m != 0) = true := by simp [hz]
    have HZ := hide hz
    clear hz
    rcases hv with rfl | rfl
    all_goals
      go_enter Try.func15, Try.ntmps15
      go_wp2_with (first
        | refine wpList_load_blk rfl 28 (.tmp 3) rfl (w.heap.size) rfl 28 _ _ ((unhide HM0).blk0) Try.underlying28 rfl (by kernel_rfl) ?_
        | (go_at_call 18; (with_reducible refine Calls.mono (unhide HCK _ (unhide HOK1) (unhide HB1)) ?_); rintro _ w2 ⟨rfl, hb2⟩
           have HM2 := hide ((unhide HM0).called hb2)
           clear hb2))
      go_ret2
      exact enc_none (by rw [unhide HE]; exact unhide HZ) (unhide HE) (unhide HM2).below
end Go.Proofs.Ytkgacehnpdijaaa
