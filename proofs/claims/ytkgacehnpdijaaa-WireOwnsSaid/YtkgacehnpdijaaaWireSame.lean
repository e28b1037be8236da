/- Are two messages the same? -/
import Derived.Test.YtkgacehnpdijaaaWireLawB
namespace Go.Proofs.Ytkgacehnpdijaaa
set_option linter.unusedVariables false
set_option linter.unusedSimpArgs false
open Go.RowKit Wire

theorem take_eq_succ {α : Type} {a b : List α} {k : Nat} {x : α} (h : a.take k = b.take k) (ha : a[k]? = some x) (hb : b[k]? = some x) : a.take (k + 1) = b.take (k + 1) := by
  rw [List.take_add_one, List.take_add_one, h, ha, hb]
theorem eq_of_take {α : Type} {a b : List α} (hl : a.length = b.length) (h : a.take a.length = b.take a.length) : a = b := by
  rw [List.take_length, hl, List.take_length] at h
  exact h
set_option maxHeartbeats 4000000 in
set_option maxRecDepth 20000 in
theorem same_vers (vs ws : List Vr) (r : Bool) (hr : r = true ↔ vs = ws) (A B : Option Addr) (c d Ba Bb : Nat) (w : World) (ha : RdV w Ba A (vrow vs)) (hb : RdV w Bb B (vrow ws)) (h1 : Ba ≤ w.heap.size) (h2 : Bb ≤ w.heap.size) (hl : vs.length ≤ 1000000000000000) (hl2 : ws.length ≤ 1000000000000000) :
    Calls Try.prog 35 #[.slice A vs.length c, .slice B ws.length d] w fun e w' => e = .returned (.bool r) ∧ Below w.heap.size w w' := by
  have HA := hide (ha.more h1)
  have HBB := hide (hb.more h2)
  have HR := hide hr
  clear ha hb hr h1 h2
  by_cases hlen : vs.length = ws.length
  · have HL := hide hlen
    rw [← hlen]
    clear hlen hl2
    go_enter Try.func35, Try.ntmps35
    go_wp2_with fail
    go_loopw [5] (fun i wr => ∃ k : Nat, k ≤ vs.length ∧ i = .int .i64 k ∧ vs.take k = ws.take k ∧ Below w.heap.size w wr) (fun i _ => vs.length - (intOf i).toNat)
    case atStart => exact ⟨0, by omega, rfl, by simp, Below.refl _ _⟩
    case round =>
      obtain ⟨k, hk, rfl, ht, hb⟩ := hrel
      have HB := hide hb
      have HT := hide ht
      clear hb ht
      by_cases hlt : k < vs.length
      · obtain ⟨v, hv⟩ : ∃ v, vs[k]? = some v := ⟨vs[k], List.getElem?_eq_getElem hlt⟩
        obtain ⟨v2, hv2⟩ : ∃ v, ws[k]? = some v := ⟨ws[k]'(by rw [← unhide HL]; exact hlt), List.getElem?_eq_getElem _⟩
        obtain ⟨ad, hA, _, a0, a1, a2, a3, a4, a5⟩ := verAt ((unhide HA).below (unhide HB)) hv
        obtain ⟨bd, hB, _, b0, b1, b2, b3, b4, b5⟩ := verAt ((unhide HBB).below (unhide HB)) hv2
        subst hA hB
        obtain ⟨q, hq, heq⟩ := eql_vr v v2
        have HV := hide hv; have HV2 := hide hv2; have HQ := hide hq
        clear hv hv2 hq
        cases q
        · obtain rfl : r = false := by
            cases r with
            | false => rfl
            | true =>
              have e := (unhide HR).1 rfl
              subst e
              have := (unhide HV).symm.trans (unhide HV2)
              injection this with this
              have := (unhide HQ).2 this
              cases this
          go_upto_region 6 with fail
          go_region_law fail
          all_goals
            go_wp2_with fail
            go_ret
            exact ⟨rfl, (unhide HB).trans (below_drewN' (Below.refl _ _) 1)⟩
        · have HT2 := hide (take_eq_succ (unhide HT) (unhide HV) ((unhide HQ).1 rfl ▸ unhide HV2))
          go_upto_region 6 with fail
          go_region_law fail
          all_goals
            go_wp2_with fail
            exact ⟨⟨k + 1, by omega, by go_num, unhide HT2, (unhide HB).trans (below_drewN' (Below.refl _ _) 1)⟩, by simp [intOf]; omega⟩
      · obtain rfl : k = vs.length := by omega
        obtain rfl : r = true := (unhide HR).2 (eq_of_take (unhide HL) (unhide HT))
        go_wp2_with fail
        go_ret
        exact ⟨rfl, unhide HB⟩
  · obtain rfl : r = false := by
      cases r with
      | false => rfl
      | true => exact absurd (congrArg List.length ((unhide HR).1 rfl)) hlen
    have g1 : ((vs.length : Int) != (ws.length : Int)) = true := by simp; omega
    clear hlen
    go_enter Try.func35, Try.ntmps35
    go_wp2_with fail
    go_ret
    exact ⟨rfl, Below.refl _ _⟩
-- SAME MSG
set_option maxHeartbeats 8000000 in
set_option maxRecDepth 20000 in
theorem same_msg (m m' : Ms) (r : Bool) (hr : r = true ↔ m = m') (A : Option Addr) (c : Nat) (vA : Option Addr) (vc : Nat) (A' : Option Addr) (c' : Nat) (vA' : Option Addr) (vc' : Nat) (B B' : Nat) (w : World) (ha : Mq.Ok ⟨m, A, c, vA, vc⟩ w B) (hb : Mq.Ok ⟨m', A', c', vA', vc'⟩ w B') (hB : B ≤ w.heap.size) (hB' : B' ≤ w.heap.size) :
    Calls Try.prog 19 #[.agg (mcells m A c vA vc), .agg (mcells m' A' c' vA' vc')] w fun e w' => e = .returned (.bool r) ∧ Below w.heap.size w w' := by
  have HM0 := hide (((Mem.start w).new (t := 28) (cs := mcells m A c vA vc) w.heap.size rfl).new (t := 28) (cs := mcells m' A' c' vA' vc') (w.heap.size + 1) (by simp))
  obtain ⟨g, hgs⟩ : ∃ g, w.heap.size = g := ⟨_, rfl⟩
  obtain ⟨w1, hw1⟩ : ∃ u, w.alloc (.cells (mcells m A c vA vc) 28) = u := ⟨_, rfl⟩
  obtain ⟨w2, hw2⟩ : ∃ u, w1.alloc (.cells (mcells m' A' c' vA' vc') 28) = u := ⟨_, rfl⟩
  have hw1s : w1.heap.size = g + 1 := by rw [← hw1, szA, hgs]
  rw [hw1, hw2, hgs] at HM0
  obtain ⟨a0, a1, a2, a3, a4, a5, a6, a7, a8, a9, a10, a11, a12, a13⟩ := mAt (unhide HM0).blk1
  obtain ⟨b0, b1, b2, b3, b4, b5, b6, b7, b8, b9, b10, b11, b12, b13⟩ := mAt (unhide HM0).blk0
  have hsz := (unhide HM0).blk0.lt
  have HR := hide hr
  have HVA := hide ((ha.vers.more hB).below (unhide HM0).below)
  have HVB := hide ((hb.vers.more hB').below (unhide HM0).below)
  have HCA := hide ((ha.vec.more hB).below (unhide HM0).below)
  have HCB := hide ((hb.vec.more hB').below (unhide HM0).below)
  have HGS := hide hgs
  have hcap := ha.cap; have hrm := ha.room; have hcap' := hb.cap; have hrm' := hb.room
  simp only at hcap hrm hcap' hrm'
  have hvl : m.vers.length ≤ 1000000000000000 := by omega
  have hvl' : m'.vers.length ≤ 1000000000000000 := by omega
  have hvcap := ha.vcap; have hvrm := ha.vroom; have hvcap' := hb.vcap; have hvrm' := hb.vroom
  simp only at hvcap hvrm hvcap' hvrm'
  clear ha hb hB hB' hr
  show Calls _ _ #[.agg #[.int .i64 m.kind, .int .u64 m.id, .int .u64 m.n, .int .u64 m.ts, .string m.lo, .string m.hi, .slice A m.vers.length c, .slice vA m.vec.length vc, .int .i64 m.cmd.kind, .int .i64 m.cmd.dc, .int .i64 m.cmd.shard, .int .i64 m.cmd.node, .int .i64 m.cmd.mode, .string m.cmd.key], .agg #[.int .i64 m'.kind, .int .u64 m'.id, .int .u64 m'.n, .int .u64 m'.ts, .string m'.lo, .string m'.hi, .slice A' m'.vers.length c', .slice vA' m'.vec.length vc', .int .i64 m'.cmd.kind, .int .i64 m'.cmd.dc, .int .i64 m'.cmd.shard, .int .i64 m'.cmd.node, .int .i64 m'.cmd.mode, .string m'.cmd.key]] _ _
  obtain ⟨q, hq, heq⟩ := eql_cmd m.cmd m'.cmd
  have heq2 : ∀ u : World, (Op.equalIn 10000 26 (.agg #[.int .i64 m.cmd.kind, .int .i64 m.cmd.dc, .int .i64 m.cmd.shard, .int .i64 m.cmd.node, .int .i64 m.cmd.mode, .string m.cmd.key]) (.agg #[.int .i64 m'.cmd.kind, .int .i64 m'.cmd.dc, .int .i64 m'.cmd.shard, .int .i64 m'.cmd.node, .int .i64 m'.cmd.mode, .string m'.cmd.key])).run Try.prog u = .ok q u := heq
  have HQ := hide hq
  clear heq hq
  by_cases hz : m.kind = m'.kind
  rotate_left
  ·
    have g0 : (m.kind != m'.kind) = true := by simp [hz]
    obtain rfl : r = false := by
      cases r with
      | false => rfl
      | true => exact absurd (congrArg (fun x : Ms => x.kind) ((unhide HR).1 rfl)) hz
    clear hz
    go_enter Try.func19, Try.ntmps19
    go_wp2_with fail
    go_ret
    exact ⟨rfl, by have h := (unhide HM0).below; rw [unhide HGS] at h; exact h⟩
  have H0 := hide hz
  have g0 : (m.kind != m'.kind) = false := by simp [hz]
  clear hz
  by_cases hz : m.id = m'.id
  rotate_left
  ·
    have g1 : (m.id != m'.id) = true := by simp [hz]
    obtain rfl : r = false := by
      cases r with
      | false => rfl
      | true => exact absurd (congrArg (fun x : Ms => x.id) ((unhide HR).1 rfl)) hz
    clear hz
    go_enter Try.func19, Try.ntmps19
    go_wp2_with fail
    go_ret
    exact ⟨rfl, by have h := (unhide HM0).below; rw [unhide HGS] at h; exact h⟩
  have H1 := hide hz
  have g1 : (m.id != m'.id) = false := by simp [hz]
  clear hz
  by_cases hz : m.n = m'.n
  rotate_left
  ·
    have g2 : (m.n != m'.n) = true := by simp [hz]
    obtain rfl : r = false := by
      cases r with
      | false => rfl
      | true => exact absurd (congrArg (fun x : Ms => x.n) ((unhide HR).1 rfl)) hz
    clear hz
    go_enter Try.func19, Try.ntmps19
    go_wp2_with fail
    go_ret
    exact ⟨rfl, by have h := (unhide HM0).below; rw [unhide HGS] at h; exact h⟩
  have H2 := hide hz
  have g2 : (m.n != m'.n) = false := by simp [hz]
  clear hz
  by_cases hz : m.ts = m'.ts
  rotate_left
  ·
    have g3 : (m.ts != m'.ts) = true := by simp [hz]
    obtain rfl : r = false := by
      cases r with
      | false => rfl
      | true => exact absurd (congrArg (fun x : Ms => x.ts) ((unhide HR).1 rfl)) hz
    clear hz
    go_enter Try.func19, Try.ntmps19
    go_wp2_with fail
    go_ret
    exact ⟨rfl, by have h := (unhide HM0).below; rw [unhide HGS] at h; exact h⟩
  have H3 := hide hz
  have g3 : (m.ts != m'.ts) = false := by simp [hz]
  clear hz
  by_cases hz : m.lo = m'.lo
  rotate_left
  ·
    have g4 : (m.lo.toList == m'.lo.toList) = false := by rw [beq_eq_false_iff_ne]; exact fun h => hz ((str_eq _ _).1 h)
    obtain rfl : r = false := by
      cases r with
      | false => rfl
      | true => exact absurd (congrArg (fun x : Ms => x.lo) ((unhide HR).1 rfl)) hz
    clear hz
    go_enter Try.func19, Try.ntmps19
    go_wp2_with fail
    go_ret
    exact ⟨rfl, by have h := (unhide HM0).below; rw [unhide HGS] at h; exact h⟩
  have H4 := hide hz
  have g4 : (m.lo.toList == m'.lo.toList) = true := by rw [beq_iff_eq, hz]
  clear hz
  by_cases hz : m.hi = m'.hi
  rotate_left
  ·
    have g5 : (m.hi.toList == m'.hi.toList) = false := by rw [beq_eq_false_iff_ne]; exact fun h => hz ((str_eq _ _).1 h)
    obtain rfl : r = false := by
      cases r with
      | false => rfl
      | true => exact absurd (congrArg (fun x : Ms => x.hi) ((unhide HR).1 rfl)) hz
    clear hz
    go_enter Try.func19, Try.ntmps19
    go_wp2_with fail
    go_ret
    exact ⟨rfl, by have h := (unhide HM0).below; rw [unhide HGS] at h; exact h⟩
  have H5 := hide hz
  have g5 : (m.hi.toList == m'.hi.toList) = true := by rw [beq_iff_eq, hz]
  clear hz
  cases q
  · have hz : ¬ m.cmd = m'.cmd := fun h => by have := (unhide HQ).2 h; cases this
    obtain rfl : r = false := by
      cases r with
      | false => rfl
      | true => exact absurd (congrArg (fun x : Ms => x.cmd) ((unhide HR).1 rfl)) hz
    clear hz
    go_enter Try.func19, Try.ntmps19
    go_wp2_with fail
    go_ret
    exact ⟨rfl, by have h := (unhide HM0).below; rw [unhide HGS] at h; exact h⟩
  have HCM : Hid (m.cmd = m'.cmd) := hide ((unhide HQ).1 rfl)
  by_cases hz : m.vec.length = m'.vec.length
  rotate_left
  ·
    have g7 : ((m.vec.length : Int) != (m'.vec.length : Int)) = true := by simp; omega
    have hz : ¬ m.vec = m'.vec := fun h => hz (congrArg List.length h)
    obtain rfl : r = false := by
      cases r with
      | false => rfl
      | true => exact absurd (congrArg (fun x : Ms => x.vec) ((unhide HR).1 rfl)) hz
    clear hz
    go_enter Try.func19, Try.ntmps19
    go_wp2_with fail
    go_ret
    exact ⟨rfl, by have h := (unhide HM0).below; rw [unhide HGS] at h; exact h⟩
  have HVL := hide hz
  have g7 : ((m.vec.length : Int) != (m'.vec.length : Int)) = false := by simp; omega
  clear hz
  go_enter Try.func19, Try.ntmps19
  go_wp2_with fail
  clear hgs hw1 hw2 hw1s
  go_loopw [5] (fun i wr => ∃ k : Nat, k ≤ m.vec.length ∧ i = .int .i64 k ∧ m.vec.take k = m'.vec.take k ∧ Mem w wr [(g + 1, 28, mcells m' A' c' vA' vc'), (g, 28, mcells m A c vA vc)] ∧ Below w2.heap.size w2 wr) (fun i _ => m.vec.length - (intOf i).toNat)
  case atStart => exact ⟨0, by omega, rfl, by simp, unhide HM0, Below.refl _ _⟩
  case round =>
    obtain ⟨k, hk, rfl, ht, hm, hbw⟩ := hrel
    clear a0 a1 a2 a3 a4 a5 a6 a7 a8 a9 a10 a11 a12 a13 b0 b1 b2 b3 b4 b5 b6 b7 b8 b9 b10 b11 b12 b13
    have HMr := hide hm
    have HT := hide ht
    have HBW := hide hbw
    have a7 : wr.cell? ⟨g, 7, none⟩ = some (.slice vA m.vec.length vc) := hm.blk1.cell 7
    have hag := hm.blk1.lt
    have hbg := hm.blk0.lt
    clear hm ht hbw
    by_cases hlt : k < m.vec.length
    · obtain ⟨x, hx⟩ : ∃ x, m.vec[k]? = some x := ⟨m.vec[k], List.getElem?_eq_getElem hlt⟩
      obtain ⟨y, hy⟩ : ∃ y, m'.vec[k]? = some y := ⟨m'.vec[k]'(by rw [← unhide HVL]; exact hlt), List.getElem?_eq_getElem _⟩
      obtain ⟨ad, hA, _, hcs⟩ := ((unhide HCA).below ((unhide HBW).mono (unhide HM0).size)) (by rw [List.length_map]; show 0 < m.vec.length; omega)
      obtain ⟨bd, hB, _, hcs2⟩ := ((unhide HCB).below ((unhide HBW).mono (unhide HM0).size)) (by rw [List.length_map]; show 0 < m'.vec.length; rw [← unhide HVL]; omega)
      subst hA hB
      have p0 := hcs k (.int .u64 x) (by rw [List.getElem?_map]; show (m.vec[k]?).map _ = _; rw [hx]; rfl)
      have q0 := hcs2 k (.int .u64 y) (by rw [List.getElem?_map]; show (m'.vec[k]?).map _ = _; rw [hy]; rfl)
      have b7 : wr.cell? ⟨g + 1, 7, none⟩ = some (.slice (some bd) m.vec.length vc') := by
        have h := (unhide HMr).blk0.cell 7
        rw [unhide HVL]
        exact h
      have s1 : (k : Int) < (m.vec.length : Int) := by omega
      have hlt2 : k < m'.vec.length := by rw [← unhide HVL]; exact hlt
      have HX := hide hx; have HY := hide hy
      clear hcs hcs2 hx hy
      by_cases hxy : x = y
      · subst hxy
        have HT2 := hide (take_eq_succ (unhide HT) (unhide HX) (unhide HY))
        go_upto_region 6 with fail
        go_region_law fail
        all_goals
          go_wp2_with fail
          exact ⟨⟨k + 1, by omega, by go_num, unhide HT2, (unhide HMr).drewN 1, (unhide HBW).trans (below_drewN' (Below.refl _ _) 1)⟩, by simp [intOf]; omega⟩
      · have g9 : (x != y) = true := by simp [hxy]
        obtain rfl : r = false := by
          cases r with
          | false => rfl
          | true =>
            have e := (unhide HR).1 rfl
            subst e
            have := (unhide HX).symm.trans (unhide HY)
            injection this with this
            exact absurd this hxy
        clear hxy
        go_upto_region 6 with fail
        go_region_law fail
        all_goals
          go_wp2_with fail
          go_ret
          exact ⟨rfl, by have h := ((unhide HMr).drewN 1).below; first | exact h | (rw [unhide HGS] at h; exact h)⟩
    · obtain rfl : k = m.vec.length := by omega
      have a6 : wr.cell? ⟨g, 6, none⟩ = some (.slice A m.vers.length c) := (unhide HMr).blk1.cell 6
      have b6 : wr.cell? ⟨g + 1, 6, none⟩ = some (.slice A' m'.vers.length c') := (unhide HMr).blk0.cell 6
      have HRV : Hid (r = true ↔ m.vers = m'.vers) := hide (by
        rw [unhide HR]
        refine ⟨fun h => by rw [h], fun h => ?_⟩
        have e7 : m.vec = m'.vec := eq_of_take (unhide HVL) (unhide HT)
        have e0 := unhide H0; have e1 := unhide H1; have e2 := unhide H2; have e3 := unhide H3; have e4 := unhide H4; have e5 := unhide H5; have e8 := unhide HCM
        cases m
        cases m'
        simp only at e0 e1 e2 e3 e4 e5 e7 e8 h
        subst e0 e1 e2 e3 e4 e5 e7 e8 h
        rfl)
      have HSV := hide (same_vers m.vers m'.vers r (unhide HRV) A A' c c' w.heap.size w.heap.size wr ((unhide HVA).below ((unhide HBW).mono (unhide HM0).size)) ((unhide HVB).below ((unhide HBW).mono (unhide HM0).size)) (unhide HMr).size (unhide HMr).size hvl hvl')
      go_wp2_with (go_at_call 35; refine Calls.mono (unhide HSV) ?_; rintro _ w9 ⟨rfl, hb9⟩; have HM9 := hide ((unhide HMr).called hb9); clear hb9)
      go_ret
      exact ⟨rfl, by have h := (unhide HM9).below; first | exact h | (rw [unhide HGS] at h; exact h)⟩
end Go.Proofs.Ytkgacehnpdijaaa
