/- The document's reading of the versions. The document's reading of the vector. The document's reading of the command. -/
import Derived.Test.YtkgacehnpdijaaaWireRdQ
import Derived.Test.YtkgacehnpdijaaaWireReadQ
namespace Go.Proofs.Ytkgacehnpdijaaa
set_option linter.unusedVariables false
set_option linter.unusedSimpArgs false
open Go.RowKit Wire

theorem lenB' {α : Type} (l : List α) : decide (0 < l.length) = nzL l := by cases l <;> rfl
/-- a row of the message grows -/
theorem q_grown_ends {x x7 : World} {R B mm i base : Nat} {s : RS} {v u : Value} {o : Obj} (hr : QAt x R B s) (hv : ∀ k, v.ownBlock = some k → base ≤ k) (hg : (x.alloc o).grownBy x7 v.ownBlock) (hBm : B ≤ mm) (hne : mm ≠ R) (hR : R < base) :
    QAt (x7.setCell ⟨mm, i, none⟩ u) R B s ∧ Only (fun k => v.ownBlock = some k ∨ k = mm) x (x7.setCell ⟨mm, i, none⟩ u) := by
  have hBR := hr.le
  have h1 : Only (fun k => v.ownBlock = some k ∨ k = mm) x (x7.setCell ⟨mm, i, none⟩ u) :=
    ((((Only.refl _ x).alloc o).trans (Only.of_grown hg fun k hk => .inl hk)).setCell (p := ⟨mm, i, none⟩) (.inr rfl) u)
  refine ⟨hr.only h1 fun k hk => ?_, h1⟩
  rcases hk with hk | hk
  · have := hv k hk
    omega
  · subst hk; exact ⟨hBm, hne⟩
/-- the reading of a row stands at s: so much of it is read, or it has come to its fault -/
def RowSt {α σ : Type} (x : Except Int (List α × List UInt8)) (c : σ → Cd α) (next : α → σ) (t : σ) (k : Nat) (acc : List α) (s : RS) : Prop :=
  (∃ q, s = .ok q ∧ x = mapE (fun l => acc ++ l) (rdL c next k t q)) ∨ ∃ er, s = .error er ∧ x = .error er
/-- what else the round of a row leaves alone -/
theorem mown_vec {w w' : World} {base : Nat} {vA : Option Addr} {vc : Nat} {l : List Int} {S : Nat → Prop} (h : w.ownsRow base 22 1 (.slice vA l.length vc) l.length (l.map (Value.int .u64))) (ho : Only S w w') (hs : ∀ k, base ≤ k → k < w.heap.size → ¬ S k) : w'.ownsRow base 22 1 (.slice vA l.length vc) l.length (l.map (Value.int .u64)) :=
  own_only h ho fun k hk => hs k (h.lt k hk).1 (h.lt k hk).2
theorem wrap_add {a t T : Int} (h : (a + t) % 18446744073709551616 = T) : IntKind.u64.wrap (a + t) = T := by rw [IntKind.wrap_u64]; exact h
theorem stay_add {a : Int} (h : In64 a) : (a + 0) % 18446744073709551616 = a := by have := h.1; have := h.2; omega
set_option maxHeartbeats 8000000 in
set_option maxRecDepth 20000 in
theorem part_5 (v : Int) (m : Ms) (vA : Option Addr) (vc : Nat) (R B mm base : Nat) (b : List UInt8) (w : World) (hq : QAt w R B (.ok b)) (hm : Blk w mm 28 (mcells m none 0 vA vc)) (h0 : m.vers = []) (hw : MOwn w base m none 0 vA vc) (hne : mm ≠ R) (hBm : B ≤ mm) (hb : mm < base) (hbw : base ≤ w.heap.size) (hRb : R < base) :
    Calls Try.prog 44 #[.pointer (some ⟨R, 0, none⟩), .int .i64 v, .int .i64 5, .pointer (some ⟨mm, 0, none⟩)] w (PartOut v 5 m none 0 vA vc R B mm base b w) := by
  have HNU : Hid (∀ u s, QAt u R B s → Calls Try.prog 64 #[.pointer (some ⟨R, 0, none⟩), .int .i64 v, .int .i64 2] u (QOut (numC v 2).rd 0 (Value.int .u64) R B s u)) := hide (fun u s h => q_number R B 2 v s u h (by omega) (by omega))
  have HN8 : Hid (∀ u s, QAt u R B s → Calls Try.prog 64 #[.pointer (some ⟨R, 0, none⟩), .int .i64 v, .int .i64 8] u (QOut (numC v 8).rd 0 (Value.int .u64) R B s u)) := hide (fun u s h => q_number R B 8 v s u h (by omega) (by omega))
  have HN1 : Hid (∀ u s, QAt u R B s → Calls Try.prog 64 #[.pointer (some ⟨R, 0, none⟩), .int .i64 v, .int .i64 1] u (QOut (numC v 1).rd 0 (Value.int .u64) R B s u)) := hide (fun u s h => q_number R B 1 v s u h (by omega) (by omega))
  have HN4 : Hid (∀ u s, QAt u R B s → Calls Try.prog 64 #[.pointer (some ⟨R, 0, none⟩), .int .i64 v, .int .i64 4] u (QOut (numC v 4).rd 0 (Value.int .u64) R B s u)) := hide (fun u s h => q_number R B 4 v s u h (by omega) (by omega))
  have HT16 : Hid (∀ u s, QAt u R B s → Calls Try.prog 65 #[.pointer (some ⟨R, 0, none⟩), .int .i64 v, .int .i64 16] u (QOut (textC (numC v 1) 16).rd ByteArray.empty Value.string R B s u)) := hide (fun u s h => q_text R B v 16 s u h (by omega) (by omega))
  have HT64 : Hid (∀ u s, QAt u R B s → Calls Try.prog 65 #[.pointer (some ⟨R, 0, none⟩), .int .i64 v, .int .i64 64] u (QOut (textC (numC v 1) 64).rd ByteArray.empty Value.string R B s u)) := hide (fun u s h => q_text R B v 64 s u h (by omega) (by omega))
  have HWD : Hid (∀ u s, QAt u R B s → Calls Try.prog 42 #[.pointer (some ⟨R, 0, none⟩), .int .i64 1] u (QOut (fixC 1).rd 0 (Value.int .u64) R B s u)) := hide (fun u s h => q_wide R B 1 s u h (by omega) (by omega))
  have HMU : Hid (∀ u s, QAt u R B (rdS (numC v 2).rd s) → Calls Try.prog 66 #[.pointer (some ⟨R, 0, none⟩), .int .u64 (rdV 0 (numC v 2).rd s), .int .u64 4096, .int .i64 6] u fun e w' => e = .returned (.int .i64 (rdV 0 (most (numC v 2) 4096 6).rd s)) ∧ QAt w' R B (rdS (most (numC v 2) 4096 6).rd s) ∧ Only (fun k => k = R) u w') := hide (fun u s h => q_least R B 2 v s 4096 6 u h (by omega) (by omega) (by omega) (by omega))
  have HM1 : Hid (∀ u s, QAt u R B (rdS (numC v 1).rd s) → Calls Try.prog 66 #[.pointer (some ⟨R, 0, none⟩), .int .u64 (rdV 0 (numC v 1).rd s), .int .u64 3, .int .i64 1] u fun e w' => e = .returned (.int .i64 (rdV 0 (most (numC v 1) 3 1).rd s)) ∧ QAt w' R B (rdS (most (numC v 1) 3 1).rd s) ∧ Only (fun k => k = R) u w') := hide (fun u s h => q_least R B 1 v s 3 1 u h (by omega) (by omega) (by omega) (by omega))
  have HM4 : Hid (∀ u s, QAt u R B (rdS (numC v 4).rd s) → Calls Try.prog 66 #[.pointer (some ⟨R, 0, none⟩), .int .u64 (rdV 0 (numC v 4).rd s), .int .u64 1073741824, .int .i64 1] u fun e w' => e = .returned (.int .i64 (rdV 0 (most (numC v 4) 1073741824 1).rd s)) ∧ QAt w' R B (rdS (most (numC v 4) 1073741824 1).rd s) ∧ Only (fun k => k = R) u w') := hide (fun u s h => q_least R B 4 v s 1073741824 1 u h (by omega) (by omega) (by omega) (by omega))
  have HMF : Hid (∀ u s, QAt u R B (rdS (fixC 1).rd s) → Calls Try.prog 66 #[.pointer (some ⟨R, 0, none⟩), .int .u64 (rdV 0 (fixC 1).rd s), .int .u64 1, .int .i64 3] u fun e w' => e = .returned (.int .i64 (rdV 0 (most (fixC 1) 1 3).rd s)) ∧ QAt w' R B (rdS (most (fixC 1) 1 3).rd s) ∧ Only (fun k => k = R) u w') := hide (fun u s h => q_least R B 1 1 s 1 3 u h (by omega) (by omega) (by omega) (by omega))
  have HM := hide hm
  have HW := hide hw
  have HQ := hide hq
  have HO := hide (Only.refl (fun k => k = R ∨ k = mm ∨ w.heap.size ≤ k) w)
  obtain ⟨i0, hi, hz0, hz1, hz2⟩ := info_parts verinfo
  have hmw := hm.lt
  clear hq hm hw
  go_enter Try.func44, Try.ntmps44
  go_upto_region 19 with (first
    | (go_at_call 64; (with_reducible refine Calls.mono (unhide HNU _ _ (unhide HQ)) ?_); go_must ((
       rintro _ u1 ⟨rfl, hq, ho⟩
       have HQ1 := hide hq
       have HO1 := hide ho
       clear hq ho)))
    | (go_at_call 66; (with_reducible refine Calls.mono (unhide HMU _ _ (unhide HQ1)) ?_); go_must ((
       rintro _ u2 ⟨rfl, hq, ho⟩
       have HQ2 := hide hq
       have HO2 := hide ((unhide HO1).trans ho)
       clear hq ho))))
  have hn := rdV_range (most_law (num_law v 2) 4096 6) (P := fun n => 0 ≤ n ∧ n ≤ 4096) ⟨by omega, by omega⟩ (fun n h => most_ok h) (.ok b)
  generalize hN : rdV 0 (most (numC v 2) 4096 6).rd (.ok b) = N0 at hn ⊢
  obtain ⟨N, rfl⟩ := Int.eq_ofNat_of_zero_le hn.1
  have hN4 : N ≤ 4096 := by omega
  have hrow0 : ∃ s0, rdS (most (numC v 2) 4096 6).rd (.ok b) = s0 ∧ RowSt ((verRow (numC v) (aheadOf v)).rd b) (verC (numC v) (aheadOf v)) (fun v => v.ts) 0 N [] s0 := by
    refine ⟨_, rfl, ?_⟩
    rcases hs : rdS (most (numC v 2) 4096 6).rd (.ok b) with er | q
    · exact .inr ⟨er, rfl, row_err (rd_of_err hs)⟩
    · have h1 := rd_of_ok hs 0
      rw [hN] at h1
      exact .inl ⟨q, rfl, (row_rd (c := verC (numC v) (aheadOf v)) (next := fun v => v.ts) (s := 0) h1).trans (mapE_id _).symm⟩
  obtain ⟨s0, hs0, hrow⟩ := hrow0
  rw [hs0] at HQ2
  have HROW := hide hrow
  have HM2 := hide ((unhide HM).only (unhide HO2) (fun e => hne e))
  have HVL := hide (fun k (hk : (Value.slice vA m.vec.length vc).ownBlock = some k) => ((unhide HW).vec.lt k hk).2)
  have HV2 := hide (mown_vec (unhide HW).vec (unhide HO2) (fun k hk _ e => by omega))
  have HO3 := hide (show Only (fun k => k = R ∨ k = mm ∨ w.heap.size ≤ k) w u2 from (unhide HO2).mono fun k _ hk => .inl hk)
  clear hrow hs0 hN hn HO1 HO2 HQ1 HW HM HO HQ HNU HMU
  rcases Bool.eq_false_or_eq_true (v == 2) with hv2 | hv2
  · go_wp2_with fail
    go_loopw [10, 11] (fun ah i wr => ∃ (k : Nat), k ≤ N ∧ i = .int .i64 k ∧ Only (fun k => k = R ∨ k = mm ∨ w.heap.size ≤ k) w wr ∧
      ((∃ acc q A c, ah = .int .u64 (lastOr 0 acc) ∧ acc.length = k ∧ QAt wr R B (.ok q) ∧ Blk wr mm 28 (mcells { m with vers := acc } A c vA vc) ∧ wr.ownsRow w.heap.size 49 6 (.slice A acc.length c) acc.length (vrow acc) ∧ wr.ownsRow base 22 1 (.slice vA m.vec.length vc) m.vec.length (m.vec.map (Value.int .u64)) ∧
        (verRow (numC v) (aheadOf v)).rd b = mapE (fun l => acc ++ l) (rdL (verC (numC v) (aheadOf v)) (fun v => v.ts) (N - k) (lastOr 0 acc) q)) ∨
       ∃ er cs t, ah = .int .u64 t ∧ QAt wr R B (.error er) ∧ Blk wr mm 28 cs ∧ cs.size = 14 ∧ (verRow (numC v) (aheadOf v)).rd b = .error er)) (fun _ i _ => N - (intOf i).toNat)
    case atStart =>
      refine ⟨0, by omega, rfl, unhide HO3, ?_⟩
      rcases unhide HROW with ⟨q, rfl, hx⟩ | ⟨er, rfl, hx⟩
      · exact .inl ⟨[], q, none, 0, rfl, rfl, unhide HQ2, by have h := unhide HM2; rw [show ({ m with vers := [] } : Ms) = m by rw [← h0]]; exact h, own_nil _ _ _ _, unhide HV2, hx⟩
      · exact .inr ⟨er, _, 0, rfl, unhide HQ2, unhide HM2, rfl, hx⟩
    case round =>
      clear HQ2 HM2 HV2 HO3 HROW
      obtain ⟨k, hk, rfl, ho, hcase⟩ := hrel
      have HO3 := hide ho
      clear ho
      rcases hcase with ⟨acc, q, A, c, rfl, hacc, hq, hm, hown, hvec, hrow⟩ | ⟨er, cs, t, rfl, hq, hm, hcs, hx⟩
      rotate_left
      · have hne0 := hq.nz
        have HQ := hide hq
        obtain ⟨A2, c2, l2, e2, hb2, _, _, _, _, ⟨hx1, _⟩ | ⟨hx1, _⟩⟩ := hq
        · cases hx1
        injection hx1 with hx1
        subst hx1
        obtain ⟨f0, f1, z0, z1⟩ := qcells hb2
        have g1 : (er == 0) = false := by simp [hne0]
        have HM := hide hm
        have HX := hide hx
        clear hb2 hm hx hne0
        by_cases hlt : k < N
        all_goals
          go_wp2_with fail
          go_ret
          exact .inl ⟨er, _, cs, (show partStep v 5 m b = _ by show mapE _ _ = _; rw [unhide HX]; rfl), rfl, unhide HQ, unhide HM, hcs, (unhide HO3).mono fun k hk hs => by rcases hs with hs | hs | hs <;> first | exact .inl hs | exact .inr hs | omega⟩
      have HQ3 := hide hq
      have HM3 := hide hm
      have HW3 := hide hown
      have HV3 := hide hvec
      have HROW := hide hrow
      have HACC := hide hacc
      have hmr := hm.lt
      have hwr := (unhide HO3).size
      clear hm hown hvec hrow hacc
      obtain ⟨A2, c2, l2, e2, hb2, _, _, _, _, ⟨hx1, he2⟩ | ⟨hx1, _⟩⟩ := hq
      rotate_left
      · cases hx1
      subst he2
      injection hx1 with hx1
      subst hx1
      obtain ⟨f0, f1, z0, z1⟩ := qcells hb2
      clear hb2
      by_cases hlt : k < N
      rotate_left
      · have hkN : k = N := by omega
        subst hkN
        have hrow1 := unhide HROW
        rw [Nat.sub_self] at hrow1
        have HR := hide (row_end hrow1)
        clear hrow1 HROW
        go_wp2_with fail
        go_ret
        refine .inr ⟨{ m with vers := acc }, nzL acc, q, A, c, vA, vc, (show partStep v 5 m b = _ by show mapE _ _ = _; rw [unhide HR]; rfl), ?_, unhide HQ3, unhide HM3, ⟨own_more (unhide HW3) (fun g hg => Nat.le_trans hbw ((unhide HW3).lt g hg).1), unhide HV3⟩, ((unhide HO3).mono fun k hk hs => by rcases hs with hs | hs | hs <;> first | exact .inl hs | exact .inr hs | omega), fun h => absurd rfl h, fun _ => ⟨rfl, rfl⟩⟩
        have ha := unhide HACC
        rw [← lenB' acc, ha]
        rfl
      -- [v
      obtain ⟨s, hs⟩ : ∃ s, lastOr 0 acc = s := ⟨_, rfl⟩
      obtain ⟨N1, hN1⟩ : ∃ x, N - k = x + 1 := ⟨N - k - 1, by omega⟩
      rw [hs]
      rw [hs, hN1] at HROW
      have HS := hide hs
      clear hs
      have hal : acc.length ≤ 4096 := by rw [unhide HACC]; omega
      go_upto_region 24 with (first
        | (go_at_call 65; (with_reducible refine Calls.mono (unhide HT64 _ _ (unhide HQ4)) ?_); go_must ((
           rintro _ x2 ⟨rfl, hq, ho⟩
           generalize hS2 : rdS (textC (numC v 1) 64).rd S1 = S2 at hq
           generalize hK2 : rdV ByteArray.empty (textC (numC v 1) 64).rd S1 = k2
           have HS2 := hide hS2
           have HK2 := hide hK2
           have HQ5 := hide hq
           have HO5 := hide ((unhide HO4).trans (ho.mono fun k _ hk => .inl hk))
           clear hS2 hK2 hq ho)))
        | (go_at_call 65; (with_reducible refine Calls.mono (unhide HT16 _ _ (unhide HQ3)) ?_); go_must ((
           rintro _ x1 ⟨rfl, hq, ho⟩
           generalize hS1 : rdS (textC (numC v 1) 16).rd (.ok q) = S1 at hq
           generalize hK1 : rdV ByteArray.empty (textC (numC v 1) 16).rd (.ok q) = k1
           have HS1 := hide hS1
           have HK1 := hide hK1
           have HQ4 := hide hq
           have HO4 := hide ((Only.refl (fun k => k = R ∨ wr.heap.size ≤ k) wr).trans (ho.mono fun k _ hk => .inl hk))
           clear hS1 hK1 hq ho))))
      obtain ⟨aa, haa⟩ : ∃ x, x2.heap.size = x := ⟨_, rfl⟩
      obtain ⟨y2, hy2⟩ : ∃ u, x2.alloc (.cells #[.string k1, .string k2, .bool false, .int .u64 0, .int .i64 0, .int .i64 0] 49) = u := ⟨_, rfl⟩
      have hRa : R < aa := by rw [← haa]; exact (unhide HQ5).lt
      have haR : aa ≠ R := by omega
      have hwa : wr.heap.size ≤ aa := by rw [← haa]; exact (unhide HO5).size
      have HA0 : Hid (Blk y2 aa 49 #[.string k1, .string k2, .bool false, .int .u64 0, .int .i64 0, .int .i64 0]) := hide (by rw [← haa, ← hy2]; exact Blk.new x2 _ _)
      have HQ6 : Hid (QAt y2 R B S2) := hide (by rw [← hy2]; exact (unhide HQ5).only (S := fun _ => False) ((Only.refl _ _).alloc _) (fun _ h => h.elim))
      have HO6 : Hid (Only (fun k => k = R ∨ wr.heap.size ≤ k) wr y2) := hide (by rw [← hy2]; exact (unhide HO5).alloc _)
      rw [haa, hy2]
      clear haa hy2 HQ5 HO5 HQ4 HO4
      go_upto_region 25 with (first
        | (go_at_call 66; (with_reducible refine Calls.mono (unhide HMF _ _ (unhide HQ7)) ?_); go_must ((
           rintro _ x4 ⟨rfl, hq, ho⟩
           generalize h1 : rdS (most (fixC 1) 1 3).rd S2 = S3 at hq
           generalize h2 : rdV 0 (most (fixC 1) 1 3).rd S2 = g
           have HS3 := hide h1
           have HG := hide h2
           clear h1 h2
           have HQ8 := hide hq
           have ha := (unhide HA1).only ho (fun e => haR e)
           have HA2 := hide ha
           have HO8 := hide ((unhide HO7).trans (ho.mono fun k _ hk => .inl hk))
           have fc := ha.cell 2
           have fz := ha.frozen 2
           have fl := ha.lt
           clear hq ho ha)))
        | (go_at_call 42; (with_reducible refine Calls.mono (unhide HWD _ _ (unhide HQ6)) ?_); go_must ((
           rintro _ x3 ⟨rfl, hq, ho⟩
           have HQ7 := hide hq
           have ha := (unhide HA0).only ho (fun e => haR e)
           have HA1 := hide ha
           have HO7 := hide ((unhide HO6).trans (ho.mono fun k _ hk => .inl hk))
           clear hq ho ha))))
      obtain ⟨y3, hy⟩ : ∃ u, x4.setCell ⟨aa, 2, none⟩ (.bool (g == 1)) = u := ⟨_, rfl⟩
      have ho := (Only.refl (fun k => k = aa) x4).setCell (p := ⟨aa, 2, none⟩) rfl (.bool (g == 1))
      have HA3 : Hid (Blk y3 aa 49 #[.string k1, .string k2, .bool (g == 1), .int .u64 0, .int .i64 0, .int .i64 0]) := hide (by rw [← hy]; exact (unhide HA2).set_ 2 (.bool (g == 1)))
      have HQ9 : Hid (QAt y3 R B S3) := hide (by rw [← hy]; exact (unhide HQ8).only ho (fun j hj => by subst hj; exact ⟨by omega, haR⟩))
      have HO9 : Hid (Only (fun k => k = R ∨ wr.heap.size ≤ k) wr y3) := hide (by rw [← hy]; exact (unhide HO8).trans (ho.mono fun j _ hj => .inr (by omega)))
      rw [hy]
      clear hy ho fc fz fl
      go_upto_region 26 with
        (go_at_call 64; (with_reducible refine Calls.mono (unhide HN8 _ _ (unhide HQ9)) ?_); go_must ((
           rintro _ x5 ⟨rfl, hq, ho⟩
           generalize h1 : rdS (numC v 8).rd S3 = S4 at hq
           generalize h2 : rdV 0 (numC v 8).rd S3 = ts
           have HS4 := hide h1
           have HTS := hide h2
           clear h1 h2
           have HQ10 := hide hq
           have ha := (unhide HA3).only ho (fun e => haR e)
           have HA4 := hide ha
           have HO10 := hide ((unhide HO9).trans (ho.mono fun k _ hk => .inl hk))
           have fc := ha.cell 3
           have fz := ha.frozen 3
           have fl := ha.lt
           clear hq ho ha)))
      obtain ⟨y4, hy⟩ : ∃ u, x5.setCell ⟨aa, 3, none⟩ (.int .u64 ts) = u := ⟨_, rfl⟩
      have ho := (Only.refl (fun k => k = aa) x5).setCell (p := ⟨aa, 3, none⟩) rfl (.int .u64 ts)
      have HA5 : Hid (Blk y4 aa 49 #[.string k1, .string k2, .bool (g == 1), .int .u64 ts, .int .i64 0, .int .i64 0]) := hide (by rw [← hy]; exact (unhide HA4).set_ 3 (.int .u64 ts))
      have HQ11 : Hid (QAt y4 R B S4) := hide (by rw [← hy]; exact (unhide HQ10).only ho (fun j hj => by subst hj; exact ⟨by omega, haR⟩))
      have HO11 : Hid (Only (fun k => k = R ∨ wr.heap.size ≤ k) wr y4) := hide (by rw [← hy]; exact (unhide HO10).trans (ho.mono fun j _ hj => .inr (by omega)))
      rw [hy]
      clear hy ho fc fz fl
      obtain ⟨T, hT⟩ : ∃ T, (ts + if aheadOf v then s else 0) % 18446744073709551616 = T := ⟨_, rfl⟩
      have HT := hide hT
      rw [show aheadOf v = true from hv2, if_pos rfl] at hT
      have e3 := wrap_add hT
      have fc := (unhide HA5).cell 3
      have fz := (unhide HA5).frozen 3
      have fl := (unhide HA5).lt
      clear hT
      go_upto_region 28 with fail
      obtain ⟨y5, hy⟩ : ∃ u, y4.setCell ⟨aa, 3, none⟩ (.int .u64 T) = u := ⟨_, rfl⟩
      have ho := (Only.refl (fun k => k = aa) y4).setCell (p := ⟨aa, 3, none⟩) rfl (.int .u64 T)
      have HA6 : Hid (Blk y5 aa 49 #[.string k1, .string k2, .bool (g == 1), .int .u64 T, .int .i64 0, .int .i64 0]) := hide (by rw [← hy]; exact (unhide HA5).set_ 3 (.int .u64 T))
      have HQ12 : Hid (QAt y5 R B S4) := hide (by rw [← hy]; exact (unhide HQ11).only ho (fun j hj => by subst hj; exact ⟨by omega, haR⟩))
      have HO12 : Hid (Only (fun k => k = R ∨ wr.heap.size ≤ k) wr y5) := hide (by rw [← hy]; exact (unhide HO11).trans (ho.mono fun j _ hj => .inr (by omega)))
      rw [hy]
      clear hy ho fc fz fl
      clear e3
      go_upto_region 29 with (first
        | (go_at_call 66; (with_reducible refine Calls.mono (unhide HM1 _ _ (unhide HQ13)) ?_); go_must ((
           rintro _ x7 ⟨rfl, hq, ho⟩
           generalize h1 : rdS (most (numC v 1) 3 1).rd S4 = S5 at hq
           generalize h2 : rdV 0 (most (numC v 1) 3 1).rd S4 = dc
           have HS5 := hide h1
           have HDC := hide h2
           clear h1 h2
           have HQ14 := hide hq
           have ha := (unhide HA7).only ho (fun e => haR e)
           have HA8 := hide ha
           have HO14 := hide ((unhide HO13).trans (ho.mono fun k _ hk => .inl hk))
           have fc := ha.cell 4
           have fz := ha.frozen 4
           have fl := ha.lt
           clear hq ho ha)))
        | (go_at_call 64; (with_reducible refine Calls.mono (unhide HN1 _ _ (unhide HQ12)) ?_); go_must ((
           rintro _ x6 ⟨rfl, hq, ho⟩
           have HQ13 := hide hq
           have ha := (unhide HA6).only ho (fun e => haR e)
           have HA7 := hide ha
           have HO13 := hide ((unhide HO12).trans (ho.mono fun k _ hk => .inl hk))
           clear hq ho ha))))
      obtain ⟨y6, hy⟩ : ∃ u, x7.setCell ⟨aa, 4, none⟩ (.int .i64 dc) = u := ⟨_, rfl⟩
      have ho := (Only.refl (fun k => k = aa) x7).setCell (p := ⟨aa, 4, none⟩) rfl (.int .i64 dc)
      have HA9 : Hid (Blk y6 aa 49 #[.string k1, .string k2, .bool (g == 1), .int .u64 T, .int .i64 dc, .int .i64 0]) := hide (by rw [← hy]; exact (unhide HA8).set_ 4 (.int .i64 dc))
      have HQ15 : Hid (QAt y6 R B S5) := hide (by rw [← hy]; exact (unhide HQ14).only ho (fun j hj => by subst hj; exact ⟨by omega, haR⟩))
      have HO15 : Hid (Only (fun k => k = R ∨ wr.heap.size ≤ k) wr y6) := hide (by rw [← hy]; exact (unhide HO14).trans (ho.mono fun j _ hj => .inr (by omega)))
      rw [hy]
      clear hy ho fc fz fl
      go_upto_region 30 with (first
        | (go_at_call 66; (with_reducible refine Calls.mono (unhide HM4 _ _ (unhide HQ16)) ?_); go_must ((
           rintro _ x9 ⟨rfl, hq, ho⟩
           generalize h1 : rdS (most (numC v 4) 1073741824 1).rd S5 = S6 at hq
           generalize h2 : rdV 0 (most (numC v 4) 1073741824 1).rd S5 = tx
           have HS6 := hide h1
           have HTX := hide h2
           clear h1 h2
           have HQ17 := hide hq
           have ha := (unhide HA10).only ho (fun e => haR e)
           have HA11 := hide ha
           have HO17 := hide ((unhide HO16).trans (ho.mono fun k _ hk => .inl hk))
           have fc := ha.cell 5
           have fz := ha.frozen 5
           have fl := ha.lt
           clear hq ho ha)))
        | (go_at_call 64; (with_reducible refine Calls.mono (unhide HN4 _ _ (unhide HQ15)) ?_); go_must ((
           rintro _ x8 ⟨rfl, hq, ho⟩
           have HQ16 := hide hq
           have ha := (unhide HA9).only ho (fun e => haR e)
           have HA10 := hide ha
           have HO16 := hide ((unhide HO15).trans (ho.mono fun k _ hk => .inl hk))
           clear hq ho ha))))
      obtain ⟨y7, hy⟩ : ∃ u, x9.setCell ⟨aa, 5, none⟩ (.int .i64 tx) = u := ⟨_, rfl⟩
      have ho := (Only.refl (fun k => k = aa) x9).setCell (p := ⟨aa, 5, none⟩) rfl (.int .i64 tx)
      have HA12 : Hid (Blk y7 aa 49 #[.string k1, .string k2, .bool (g == 1), .int .u64 T, .int .i64 dc, .int .i64 tx]) := hide (by rw [← hy]; exact (unhide HA11).set_ 5 (.int .i64 tx))
      have HQ18 : Hid (QAt y7 R B S6) := hide (by rw [← hy]; exact (unhide HQ17).only ho (fun j hj => by subst hj; exact ⟨by omega, haR⟩))
      have HO18 : Hid (Only (fun k => k = R ∨ wr.heap.size ≤ k) wr y7) := hide (by rw [← hy]; exact (unhide HO17).trans (ho.mono fun j _ hj => .inr (by omega)))
      rw [hy]
      clear hy ho fc fz fl
      have fa3 : y7.cell? ⟨aa, 3, none⟩ = some (.int .u64 T) := (unhide HA12).cell 3
      go_upto_region 31 with fail
      have hRw : R < w.heap.size := by omega
      have VQa : Hid (QAt y7.drew R B S6) := hide ((unhide HQ18).only (S := fun _ => False) (Only.refl _ _).drew (fun _ h => h.elim))
      have VMa : Hid (Blk y7.drew mm 28 (mcells { m with vers := acc } A c vA vc)) := hide ((unhide HM3).only (unhide HO18).drew (fun e => by rcases e with e | e <;> omega))
      have VWa : Hid (y7.drew.ownsRow w.heap.size 49 6 (.slice A acc.length c) acc.length (vrow acc)) := hide (own_only (unhide HW3) (unhide HO18).drew (fun j hj e => by have := (unhide HW3).lt j hj; omega))
      have VVa : Hid (y7.drew.ownsRow base 22 1 (.slice vA m.vec.length vc) m.vec.length (m.vec.map (Value.int .u64))) := hide (mown_vec (unhide HV3) (unhide HO18).drew (fun j h1 h2 e => by omega))
      have VAa : Hid (Blk y7.drew aa 49 (vcs (⟨k1, k2, g == 1, T, dc, tx⟩ : Vr)).toArray) := hide (unhide HA12)
      have VOa : Hid (Only (fun k => k = R ∨ k = mm ∨ w.heap.size ≤ k) w y7.drew) := hide ((unhide HO3).trans ((unhide HO18).drew.mono fun j _ hj => by omega))
      have VLa : Hid (∀ j, (Value.slice A acc.length c).ownBlock = some j → w.heap.size ≤ j ∧ j < wr.heap.size) := hide (fun j hj => (unhide HW3).lt j hj)
      clear HQ18 HA12 HO18 fa3
      have g7 : AtV y7.drew mm aa (.slice A acc.length c) (⟨k1, k2, g == 1, T, dc, tx⟩ : Vr) := atV (unhide VMa) (unhide VAa)
      refine wp_region_L 10 (fun u => AtV u mm aa (.slice A acc.length c) (⟨k1, k2, g == 1, T, dc, tx⟩ : Vr)) (by kernel_rfl) ?_
      refine wpAnyL_take (i := 0) (v := ?_) [8,9,10] rfl (by kernel_rfl) (by kernel_rfl) (by kernel_rfl) (by kernel_rfl) (fun _ _ _ h => h) (Or.inl ⟨by kernel_rfl, ?_⟩) (by exact g7) ?_
      rotate_left
      · intro u hSu
        obtain ⟨s0, s1, s2, s3, s4, s5, s6⟩ := hSu
        go_simp
        try with_reducible rfl
      try simp only [Act.put, List.setIfInBounds_toArray, List.set_cons_zero, List.set_cons_succ]
      refine wpAnyL_take (i := 1) (v := ?_) [2,3,4,7,10] rfl (by kernel_rfl) (by kernel_rfl) (by kernel_rfl) (by kernel_rfl) (fun _ _ _ h => h) (Or.inl ⟨by kernel_rfl, ?_⟩) (by exact g7) ?_
      rotate_left
      · intro u hSu
        obtain ⟨s0, s1, s2, s3, s4, s5, s6⟩ := hSu
        go_simp
        try with_reducible rfl
      try simp only [Act.put, List.setIfInBounds_toArray, List.set_cons_zero, List.set_cons_succ]
      refine wpAnyL_take (i := 2) (v := ?_) [3,4,7,10] rfl (by kernel_rfl) (by kernel_rfl) (by kernel_rfl) (by kernel_rfl) (fun _ _ _ h => h) (Or.inl ⟨by kernel_rfl, ?_⟩) (by exact g7) ?_
      rotate_left
      · intro u hSu
        obtain ⟨s0, s1, s2, s3, s4, s5, s6⟩ := hSu
        go_simp
        try with_reducible rfl
      try simp only [Act.put, List.setIfInBounds_toArray, List.set_cons_zero, List.set_cons_succ]
      refine wpAnyL_take (i := 3) (v := ?_) [4,7,10] rfl (by kernel_rfl) (by kernel_rfl) (by kernel_rfl) (by kernel_rfl) (fun _ _ _ h => h) (Or.inl ⟨by kernel_rfl, ?_⟩) (by exact g7) ?_
      rotate_left
      · intro u hSu
        obtain ⟨s0, s1, s2, s3, s4, s5, s6⟩ := hSu
        go_simp
        try with_reducible rfl
      try simp only [Act.put, List.setIfInBounds_toArray, List.set_cons_zero, List.set_cons_succ]
      refine wpAnyL_take (i := 4) (v := ?_) [7,10] rfl (by kernel_rfl) (by kernel_rfl) (by kernel_rfl) (by kernel_rfl) (fun _ _ _ h => h) (Or.inl ⟨by kernel_rfl, ?_⟩) (by exact g7) ?_
      rotate_left
      · intro u hSu
        obtain ⟨s0, s1, s2, s3, s4, s5, s6⟩ := hSu
        go_simp
        try with_reducible rfl
      try simp only [Act.put, List.setIfInBounds_toArray, List.set_cons_zero, List.set_cons_succ]
      refine wpAnyL_take (i := 5) (v := ?_) [6,7,10] rfl (by kernel_rfl) (by kernel_rfl) (by kernel_rfl) (by kernel_rfl) (fun _ _ _ h => h) (Or.inl ⟨by kernel_rfl, ?_⟩) (by exact g7) ?_
      rotate_left
      · intro u hSu
        obtain ⟨s0, s1, s2, s3, s4, s5, s6⟩ := hSu
        go_simp
        try with_reducible rfl
      try simp only [Act.put, List.setIfInBounds_toArray, List.set_cons_zero, List.set_cons_succ]
      refine wpAnyL_one (i := 6) (by kernel_rfl) rfl (fun K hK => ?_)
      go_simp
      have g7a : AtV (y7.drew.alloc (Obj.cells #[.string k1, .string k2, .bool (g == 1), .int .u64 T, .int .i64 dc, .int .i64 tx] 49)) mm aa (.slice A acc.length c) (⟨k1, k2, g == 1, T, dc, tx⟩ : Vr) := atV ((unhide VMa).alloc _) ((unhide VAa).alloc _)
      refine hK.out _ _ (fun _ => g7a) ?_
      clear hK K
      try simp only [Act.put, List.setIfInBounds_toArray, List.set_cons_zero, List.set_cons_succ]
      refine wpAnyL_one (i := 7) (by kernel_rfl) rfl (fun K hK => ?_)
      refine step_append_any _ rfl (.tmp 144) (.tmp 146) _ rfl w.heap.size 49 i0 _ 6 64 Try.underlying23 hi hz0 hz1 hz2 (by rfl) (by omega) (.slice A acc.length c) acc.length _ (by rfl) ((unhide VWa).alloc _) _ (some ⟨y7.drew.heap.size, 0, none⟩) 1 1 (vcs (⟨k1, k2, g == 1, T, dc, tx⟩ : Vr)) (by rfl) (rdV_new y7.drew (vcs (⟨k1, k2, g == 1, T, dc, tx⟩ : Vr)).toArray _ _) (by rfl) (vcs_one _) (by simp only [maxLen]; omega) (by omega) (by have := (unhide VOa).size; simp at this ⊢; omega) ?_
      intro A7 c7 x17 hown7 hg7 hat7 hbel7 hcc7
      have hb7 := ((unhide VMa).alloc (Obj.cells #[.string k1, .string k2, .bool (g == 1), .int .u64 T, .int .i64 dc, .int .i64 tx] 49)).grown hg7 (fun e => by have := (unhide VLa mm e.symm).1; omega)
      have ha7 := ((unhide VAa).alloc (Obj.cells #[.string k1, .string k2, .bool (g == 1), .int .u64 T, .int .i64 dc, .int .i64 tx] 49)).grown hg7 (fun e => by have := (unhide VLa aa e.symm).2; omega)
      have g7b : AtV x17 mm aa (.slice A acc.length c) (⟨k1, k2, g == 1, T, dc, tx⟩ : Vr) := atV hb7 ha7
      have z6 := hb7.frozen 6
      have VM7 := hide hb7
      have VW7 := hide hown7
      have VG7 := hide hg7
      clear hown7 hg7 hat7 hbel7 hb7 ha7
      refine hK.out _ _ (fun _ => g7b) ?_
      clear hK K
      try simp only [Act.put, List.setIfInBounds_toArray, List.set_cons_zero, List.set_cons_succ]
      refine wpAnyL_one (i := 8) (by kernel_rfl) rfl (fun K hK => ?_)
      go_simp
      refine hK.out _ _ (fun _ => g7b) ?_
      clear hK K
      try simp only [Act.put, List.setIfInBounds_toArray, List.set_cons_zero, List.set_cons_succ]
      refine wpAnyL_one (i := 9) (by kernel_rfl) rfl (fun K hK => ?_)
      go_simp
      refine hK.out _ _ (fun _ => g7b) ?_
      clear hK K
      try simp only [Act.put, List.setIfInBounds_toArray, List.set_cons_zero, List.set_cons_succ]
      refine wpAnyL_one (i := 10) (by kernel_rfl) rfl (fun K hK => ?_)
      obtain ⟨f6, g0, g1, g2, g3, g4, g5⟩ := g7b
      go_simp
      refine hK.out _ _ (fun h => absurd rfl h) ?_
      clear hK K
      try simp only [Act.put, List.setIfInBounds_toArray, List.set_cons_zero, List.set_cons_succ]
      refine wpAnyL_done (by kernel_rfl) ?_ _
      obtain ⟨hqa, hoa⟩ := q_grown_ends (i := 6) (u := .slice A7 (acc.length + 1) c7) (unhide VQa) (fun j hj => (unhide VLa j hj).1) (unhide VG7) hBm hne hRw
      have hoa2 := (unhide VOa).trans (hoa.mono (T := fun k => k = R ∨ k = mm ∨ w.heap.size ≤ k) fun j _ hj => by
        rcases hj with hj | hj
        · exact .inr (.inr (unhide VLa j hj).1)
        · exact .inr (.inl hj))
      have hva := own_only (unhide VVa) hoa (fun j hj e => by
        have h1 := unhide HVL j hj
        rcases e with e | e
        · have := (unhide VLa j e).1; omega
        · have := ((unhide VVa).lt j hj).1; omega)
      have hma := (unhide VM7).set_ 6 (.slice A7 (acc.length + 1) c7)
      have hwa := own_only (unhide VW7) (Only.setCell (S := fun k => k = mm) (p := ⟨mm, 6, none⟩) (Only.refl _ x17) rfl (.slice A7 (acc.length + 1) c7)) (fun k hk e => by have := ((unhide VW7).lt k hk).1; omega)
      obtain ⟨x18, hx8⟩ : ∃ u, x17.setCell ⟨mm, 6, none⟩ (.slice A7 (acc.length + 1) c7) = u := ⟨_, rfl⟩
      rw [hx8] at hqa hoa2 hva hma hwa ⊢
      have hqa := hide hqa
      have hoa2 := hide hoa2
      have hva := hide hva
      have hma := hide hma
      have hwa := hide hwa
      clear hx8 g7 g7a f6 g0 g1 g2 g3 g4 g5 hoa
      go_wp2_with fail
      have hma := unhide hma
      have hwa := unhide hwa
      have hl8 : (acc ++ [(⟨k1, k2, g == 1, T, dc, tx⟩ : Vr)]).length = acc.length + 1 := by simp
      have hv8 : vrow (acc ++ [(⟨k1, k2, g == 1, T, dc, tx⟩ : Vr)]) = vrow acc ++ vcs (⟨k1, k2, g == 1, T, dc, tx⟩ : Vr) := by simp [vrow]
      have hk8 := unhide HACC
      obtain ⟨hbad, hgood⟩ := ver_rd (t := s) (unhide HS1) (unhide HS2) (unhide HS3) (unhide HS4) (unhide HS5) (unhide HS6) (unhide HK1) (unhide HK2) (unhide HG) (unhide HTS) (unhide HDC) (unhide HTX)
      rw [unhide HT] at hgood
      refine ⟨⟨k + 1, by omega, by simp, unhide hoa2, ?_⟩, by simp only [intOf]; omega⟩
      rcases hS : S6 with er | q6
      · rw [hS] at hqa
        exact .inr ⟨er, _, T, rfl, unhide hqa, hma, by rw [Array.size_setIfInBounds]; rfl, (unhide HROW).trans (list_err (hbad er hS))⟩
      · rw [hS] at hqa
        refine .inl ⟨acc ++ [(⟨k1, k2, g == 1, T, dc, tx⟩ : Vr)], q6, A7, c7, by simp [lastOr], by rw [hl8, hk8], unhide hqa, ?_, ?_, unhide hva, ?_⟩
        · rw [← hl8] at hma; exact hma
        · rw [← hl8, ← hv8] at hwa; exact hwa
        · rw [show N - (k + 1) = N1 by omega]; exact vers_more (unhide HROW) (hgood q6 hS)
      -- v]
  · go_wp2_with fail
    go_loopw [10, 11] (fun ah i wr => ∃ (k : Nat), k ≤ N ∧ i = .int .i64 k ∧ Only (fun k => k = R ∨ k = mm ∨ w.heap.size ≤ k) w wr ∧
      ((∃ acc q A c, ah = .int .u64 (lastOr 0 acc) ∧ acc.length = k ∧ QAt wr R B (.ok q) ∧ Blk wr mm 28 (mcells { m with vers := acc } A c vA vc) ∧ wr.ownsRow w.heap.size 49 6 (.slice A acc.length c) acc.length (vrow acc) ∧ wr.ownsRow base 22 1 (.slice vA m.vec.length vc) m.vec.length (m.vec.map (Value.int .u64)) ∧
        (verRow (numC v) (aheadOf v)).rd b = mapE (fun l => acc ++ l) (rdL (verC (numC v) (aheadOf v)) (fun v => v.ts) (N - k) (lastOr 0 acc) q)) ∨
       ∃ er cs t, ah = .int .u64 t ∧ QAt wr R B (.error er) ∧ Blk wr mm 28 cs ∧ cs.size = 14 ∧ (verRow (numC v) (aheadOf v)).rd b = .error er)) (fun _ i _ => N - (intOf i).toNat)
    case atStart =>
      refine ⟨0, by omega, rfl, unhide HO3, ?_⟩
      rcases unhide HROW with ⟨q, rfl, hx⟩ | ⟨er, rfl, hx⟩
      · exact .inl ⟨[], q, none, 0, rfl, rfl, unhide HQ2, by have h := unhide HM2; rw [show ({ m with vers := [] } : Ms) = m by rw [← h0]]; exact h, own_nil _ _ _ _, unhide HV2, hx⟩
      · exact .inr ⟨er, _, 0, rfl, unhide HQ2, unhide HM2, rfl, hx⟩
    case round =>
      clear HQ2 HM2 HV2 HO3 HROW
      obtain ⟨k, hk, rfl, ho, hcase⟩ := hrel
      have HO3 := hide ho
      clear ho
      rcases hcase with ⟨acc, q, A, c, rfl, hacc, hq, hm, hown, hvec, hrow⟩ | ⟨er, cs, t, rfl, hq, hm, hcs, hx⟩
      rotate_left
      · have hne0 := hq.nz
        have HQ := hide hq
        obtain ⟨A2, c2, l2, e2, hb2, _, _, _, _, ⟨hx1, _⟩ | ⟨hx1, _⟩⟩ := hq
        · cases hx1
        injection hx1 with hx1
        subst hx1
        obtain ⟨f0, f1, z0, z1⟩ := qcells hb2
        have g1 : (er == 0) = false := by simp [hne0]
        have HM := hide hm
        have HX := hide hx
        clear hb2 hm hx hne0
        by_cases hlt : k < N
        all_goals
          go_wp2_with fail
          go_ret
          exact .inl ⟨er, _, cs, (show partStep v 5 m b = _ by show mapE _ _ = _; rw [unhide HX]; rfl), rfl, unhide HQ, unhide HM, hcs, (unhide HO3).mono fun k hk hs => by rcases hs with hs | hs | hs <;> first | exact .inl hs | exact .inr hs | omega⟩
      have HQ3 := hide hq
      have HM3 := hide hm
      have HW3 := hide hown
      have HV3 := hide hvec
      have HROW := hide hrow
      have HACC := hide hacc
      have hmr := hm.lt
      have hwr := (unhide HO3).size
      clear hm hown hvec hrow hacc
      obtain ⟨A2, c2, l2, e2, hb2, _, _, _, _, ⟨hx1, he2⟩ | ⟨hx1, _⟩⟩ := hq
      rotate_left
      · cases hx1
      subst he2
      injection hx1 with hx1
      subst hx1
      obtain ⟨f0, f1, z0, z1⟩ := qcells hb2
      clear hb2
      by_cases hlt : k < N
      rotate_left
      · have hkN : k = N := by omega
        subst hkN
        have hrow1 := unhide HROW
        rw [Nat.sub_self] at hrow1
        have HR := hide (row_end hrow1)
        clear hrow1 HROW
        go_wp2_with fail
        go_ret
        refine .inr ⟨{ m with vers := acc }, nzL acc, q, A, c, vA, vc, (show partStep v 5 m b = _ by show mapE _ _ = _; rw [unhide HR]; rfl), ?_, unhide HQ3, unhide HM3, ⟨own_more (unhide HW3) (fun g hg => Nat.le_trans hbw ((unhide HW3).lt g hg).1), unhide HV3⟩, ((unhide HO3).mono fun k hk hs => by rcases hs with hs | hs | hs <;> first | exact .inl hs | exact .inr hs | omega), fun h => absurd rfl h, fun _ => ⟨rfl, rfl⟩⟩
        have ha := unhide HACC
        rw [← lenB' acc, ha]
        rfl
      -- [v
      obtain ⟨s, hs⟩ : ∃ s, lastOr 0 acc = s := ⟨_, rfl⟩
      obtain ⟨N1, hN1⟩ : ∃ x, N - k = x + 1 := ⟨N - k - 1, by omega⟩
      rw [hs]
      rw [hs, hN1] at HROW
      have HS := hide hs
      clear hs
      have hal : acc.length ≤ 4096 := by rw [unhide HACC]; omega
      go_upto_region 24 with (first
        | (go_at_call 65; (with_reducible refine Calls.mono (unhide HT64 _ _ (unhide HQ4)) ?_); go_must ((
           rintro _ x2 ⟨rfl, hq, ho⟩
           generalize hS2 : rdS (textC (numC v 1) 64).rd S1 = S2 at hq
           generalize hK2 : rdV ByteArray.empty (textC (numC v 1) 64).rd S1 = k2
           have HS2 := hide hS2
           have HK2 := hide hK2
           have HQ5 := hide hq
           have HO5 := hide ((unhide HO4).trans (ho.mono fun k _ hk => .inl hk))
           clear hS2 hK2 hq ho)))
        | (go_at_call 65; (with_reducible refine Calls.mono (unhide HT16 _ _ (unhide HQ3)) ?_); go_must ((
           rintro _ x1 ⟨rfl, hq, ho⟩
           generalize hS1 : rdS (textC (numC v 1) 16).rd (.ok q) = S1 at hq
           generalize hK1 : rdV ByteArray.empty (textC (numC v 1) 16).rd (.ok q) = k1
           have HS1 := hide hS1
           have HK1 := hide hK1
           have HQ4 := hide hq
           have HO4 := hide ((Only.refl (fun k => k = R ∨ wr.heap.size ≤ k) wr).trans (ho.mono fun k _ hk => .inl hk))
           clear hS1 hK1 hq ho))))
      obtain ⟨aa, haa⟩ : ∃ x, x2.heap.size = x := ⟨_, rfl⟩
      obtain ⟨y2, hy2⟩ : ∃ u, x2.alloc (.cells #[.string k1, .string k2, .bool false, .int .u64 0, .int .i64 0, .int .i64 0] 49) = u := ⟨_, rfl⟩
      have hRa : R < aa := by rw [← haa]; exact (unhide HQ5).lt
      have haR : aa ≠ R := by omega
      have hwa : wr.heap.size ≤ aa := by rw [← haa]; exact (unhide HO5).size
      have HA0 : Hid (Blk y2 aa 49 #[.string k1, .string k2, .bool false, .int .u64 0, .int .i64 0, .int .i64 0]) := hide (by rw [← haa, ← hy2]; exact Blk.new x2 _ _)
      have HQ6 : Hid (QAt y2 R B S2) := hide (by rw [← hy2]; exact (unhide HQ5).only (S := fun _ => False) ((Only.refl _ _).alloc _) (fun _ h => h.elim))
      have HO6 : Hid (Only (fun k => k = R ∨ wr.heap.size ≤ k) wr y2) := hide (by rw [← hy2]; exact (unhide HO5).alloc _)
      rw [haa, hy2]
      clear haa hy2 HQ5 HO5 HQ4 HO4
      go_upto_region 25 with (first
        | (go_at_call 66; (with_reducible refine Calls.mono (unhide HMF _ _ (unhide HQ7)) ?_); go_must ((
           rintro _ x4 ⟨rfl, hq, ho⟩
           generalize h1 : rdS (most (fixC 1) 1 3).rd S2 = S3 at hq
           generalize h2 : rdV 0 (most (fixC 1) 1 3).rd S2 = g
           have HS3 := hide h1
           have HG := hide h2
           clear h1 h2
           have HQ8 := hide hq
           have ha := (unhide HA1).only ho (fun e => haR e)
           have HA2 := hide ha
           have HO8 := hide ((unhide HO7).trans (ho.mono fun k _ hk => .inl hk))
           have fc := ha.cell 2
           have fz := ha.frozen 2
           have fl := ha.lt
           clear hq ho ha)))
        | (go_at_call 42; (with_reducible refine Calls.mono (unhide HWD _ _ (unhide HQ6)) ?_); go_must ((
           rintro _ x3 ⟨rfl, hq, ho⟩
           have HQ7 := hide hq
           have ha := (unhide HA0).only ho (fun e => haR e)
           have HA1 := hide ha
           have HO7 := hide ((unhide HO6).trans (ho.mono fun k _ hk => .inl hk))
           clear hq ho ha))))
      obtain ⟨y3, hy⟩ : ∃ u, x4.setCell ⟨aa, 2, none⟩ (.bool (g == 1)) = u := ⟨_, rfl⟩
      have ho := (Only.refl (fun k => k = aa) x4).setCell (p := ⟨aa, 2, none⟩) rfl (.bool (g == 1))
      have HA3 : Hid (Blk y3 aa 49 #[.string k1, .string k2, .bool (g == 1), .int .u64 0, .int .i64 0, .int .i64 0]) := hide (by rw [← hy]; exact (unhide HA2).set_ 2 (.bool (g == 1)))
      have HQ9 : Hid (QAt y3 R B S3) := hide (by rw [← hy]; exact (unhide HQ8).only ho (fun j hj => by subst hj; exact ⟨by omega, haR⟩))
      have HO9 : Hid (Only (fun k => k = R ∨ wr.heap.size ≤ k) wr y3) := hide (by rw [← hy]; exact (unhide HO8).trans (ho.mono fun j _ hj => .inr (by omega)))
      rw [hy]
      clear hy ho fc fz fl
      go_upto_region 26 with
        (go_at_call 64; (with_reducible refine Calls.mono (unhide HN8 _ _ (unhide HQ9)) ?_); go_must ((
           rintro _ x5 ⟨rfl, hq, ho⟩
           generalize h1 : rdS (numC v 8).rd S3 = S4 at hq
           generalize h2 : rdV 0 (numC v 8).rd S3 = ts
           have HS4 := hide h1
           have HTS := hide h2
           clear h1 h2
           have HQ10 := hide hq
           have ha := (unhide HA3).only ho (fun e => haR e)
           have HA4 := hide ha
           have HO10 := hide ((unhide HO9).trans (ho.mono fun k _ hk => .inl hk))
           have fc := ha.cell 3
           have fz := ha.frozen 3
           have fl := ha.lt
           clear hq ho ha)))
      obtain ⟨y4, hy⟩ : ∃ u, x5.setCell ⟨aa, 3, none⟩ (.int .u64 ts) = u := ⟨_, rfl⟩
      have ho := (Only.refl (fun k => k = aa) x5).setCell (p := ⟨aa, 3, none⟩) rfl (.int .u64 ts)
      have HA5 : Hid (Blk y4 aa 49 #[.string k1, .string k2, .bool (g == 1), .int .u64 ts, .int .i64 0, .int .i64 0]) := hide (by rw [← hy]; exact (unhide HA4).set_ 3 (.int .u64 ts))
      have HQ11 : Hid (QAt y4 R B S4) := hide (by rw [← hy]; exact (unhide HQ10).only ho (fun j hj => by subst hj; exact ⟨by omega, haR⟩))
      have HO11 : Hid (Only (fun k => k = R ∨ wr.heap.size ≤ k) wr y4) := hide (by rw [← hy]; exact (unhide HO10).trans (ho.mono fun j _ hj => .inr (by omega)))
      rw [hy]
      clear hy ho fc fz fl
      obtain ⟨T, hT⟩ : ∃ T, (ts + if aheadOf v then s else 0) % 18446744073709551616 = T := ⟨_, rfl⟩
      have HT := hide hT
      rw [show aheadOf v = false from hv2, if_neg (by decide), stay_add (by rw [← unhide HTS]; exact rdV_range (num_law v 8) (P := In64) ⟨by omega, by omega⟩ (num_64 v 8 (Nat.le_refl _)) S3)] at hT
      have hT2 := hT.symm
      subst hT2
      clear hT
      have HA6 := HA5
      have HQ12 := HQ11
      have HO12 := HO11
      go_upto_region 28 with fail
      go_upto_region 29 with (first
        | (go_at_call 66; (with_reducible refine Calls.mono (unhide HM1 _ _ (unhide HQ13)) ?_); go_must ((
           rintro _ x7 ⟨rfl, hq, ho⟩
           generalize h1 : rdS (most (numC v 1) 3 1).rd S4 = S5 at hq
           generalize h2 : rdV 0 (most (numC v 1) 3 1).rd S4 = dc
           have HS5 := hide h1
           have HDC := hide h2
           clear h1 h2
           have HQ14 := hide hq
           have ha := (unhide HA7).only ho (fun e => haR e)
           have HA8 := hide ha
           have HO14 := hide ((unhide HO13).trans (ho.mono fun k _ hk => .inl hk))
           have fc := ha.cell 4
           have fz := ha.frozen 4
           have fl := ha.lt
           clear hq ho ha)))
        | (go_at_call 64; (with_reducible refine Calls.mono (unhide HN1 _ _ (unhide HQ12)) ?_); go_must ((
           rintro _ x6 ⟨rfl, hq, ho⟩
           have HQ13 := hide hq
           have ha := (unhide HA6).only ho (fun e => haR e)
           have HA7 := hide ha
           have HO13 := hide ((unhide HO12).trans (ho.mono fun k _ hk => .inl hk))
           clear hq ho ha))))
      obtain ⟨y6, hy⟩ : ∃ u, x7.setCell ⟨aa, 4, none⟩ (.int .i64 dc) = u := ⟨_, rfl⟩
      have ho := (Only.refl (fun k => k = aa) x7).setCell (p := ⟨aa, 4, none⟩) rfl (.int .i64 dc)
      have HA9 : Hid (Blk y6 aa 49 #[.string k1, .string k2, .bool (g == 1), .int .u64 T, .int .i64 dc, .int .i64 0]) := hide (by rw [← hy]; exact (unhide HA8).set_ 4 (.int .i64 dc))
      have HQ15 : Hid (QAt y6 R B S5) := hide (by rw [← hy]; exact (unhide HQ14).only ho (fun j hj => by subst hj; exact ⟨by omega, haR⟩))
      have HO15 : Hid (Only (fun k => k = R ∨ wr.heap.size ≤ k) wr y6) := hide (by rw [← hy]; exact (unhide HO14).trans (ho.mono fun j _ hj => .inr (by omega)))
      rw [hy]
      clear hy ho fc fz fl
      go_upto_region 30 with (first
        | (go_at_call 66; (with_reducible refine Calls.mono (unhide HM4 _ _ (unhide HQ16)) ?_); go_must ((
           rintro _ x9 ⟨rfl, hq, ho⟩
           generalize h1 : rdS (most (numC v 4) 1073741824 1).rd S5 = S6 at hq
           generalize h2 : rdV 0 (most (numC v 4) 1073741824 1).rd S5 = tx
           have HS6 := hide h1
           have HTX := hide h2
           clear h1 h2
           have HQ17 := hide hq
           have ha := (unhide HA10).only ho (fun e => haR e)
           have HA11 := hide ha
           have HO17 := hide ((unhide HO16).trans (ho.mono fun k _ hk => .inl hk))
           have fc := ha.cell 5
           have fz := ha.frozen 5
           have fl := ha.lt
           clear hq ho ha)))
        | (go_at_call 64; (with_reducible refine Calls.mono (unhide HN4 _ _ (unhide HQ15)) ?_); go_must ((
           rintro _ x8 ⟨rfl, hq, ho⟩
           have HQ16 := hide hq
           have ha := (unhide HA9).only ho (fun e => haR e)
           have HA10 := hide ha
           have HO16 := hide ((unhide HO15).trans (ho.mono fun k _ hk => .inl hk))
           clear hq ho ha))))
      obtain ⟨y7, hy⟩ : ∃ u, x9.setCell ⟨aa, 5, none⟩ (.int .i64 tx) = u := ⟨_, rfl⟩
      have ho := (Only.refl (fun k => k = aa) x9).setCell (p := ⟨aa, 5, none⟩) rfl (.int .i64 tx)
      have HA12 : Hid (Blk y7 aa 49 #[.string k1, .string k2, .bool (g == 1), .int .u64 T, .int .i64 dc, .int .i64 tx]) := hide (by rw [← hy]; exact (unhide HA11).set_ 5 (.int .i64 tx))
      have HQ18 : Hid (QAt y7 R B S6) := hide (by rw [← hy]; exact (unhide HQ17).only ho (fun j hj => by subst hj; exact ⟨by omega, haR⟩))
      have HO18 : Hid (Only (fun k => k = R ∨ wr.heap.size ≤ k) wr y7) := hide (by rw [← hy]; exact (unhide HO17).trans (ho.mono fun j _ hj => .inr (by omega)))
      rw [hy]
      clear hy ho fc fz fl
      have fa3 : y7.cell? ⟨aa, 3, none⟩ = some (.int .u64 T) := (unhide HA12).cell 3
      go_upto_region 31 with fail
      have hRw : R < w.heap.size := by omega
      have VQa : Hid (QAt y7.drew R B S6) := hide ((unhide HQ18).only (S := fun _ => False) (Only.refl _ _).drew (fun _ h => h.elim))
      have VMa : Hid (Blk y7.drew mm 28 (mcells { m with vers := acc } A c vA vc)) := hide ((unhide HM3).only (unhide HO18).drew (fun e => by rcases e with e | e <;> omega))
      have VWa : Hid (y7.drew.ownsRow w.heap.size 49 6 (.slice A acc.length c) acc.length (vrow acc)) := hide (own_only (unhide HW3) (unhide HO18).drew (fun j hj e => by have := (unhide HW3).lt j hj; omega))
      have VVa : Hid (y7.drew.ownsRow base 22 1 (.slice vA m.vec.length vc) m.vec.length (m.vec.map (Value.int .u64))) := hide (mown_vec (unhide HV3) (unhide HO18).drew (fun j h1 h2 e => by omega))
      have VAa : Hid (Blk y7.drew aa 49 (vcs (⟨k1, k2, g == 1, T, dc, tx⟩ : Vr)).toArray) := hide (unhide HA12)
      have VOa : Hid (Only (fun k => k = R ∨ k = mm ∨ w.heap.size ≤ k) w y7.drew) := hide ((unhide HO3).trans ((unhide HO18).drew.mono fun j _ hj => by omega))
      have VLa : Hid (∀ j, (Value.slice A acc.length c).ownBlock = some j → w.heap.size ≤ j ∧ j < wr.heap.size) := hide (fun j hj => (unhide HW3).lt j hj)
      clear HQ18 HA12 HO18 fa3
      have g7 : AtV y7.drew mm aa (.slice A acc.length c) (⟨k1, k2, g == 1, T, dc, tx⟩ : Vr) := atV (unhide VMa) (unhide VAa)
      refine wp_region_L 10 (fun u => AtV u mm aa (.slice A acc.length c) (⟨k1, k2, g == 1, T, dc, tx⟩ : Vr)) (by kernel_rfl) ?_
      refine wpAnyL_take (i := 0) (v := ?_) [8,9,10] rfl (by kernel_rfl) (by kernel_rfl) (by kernel_rfl) (by kernel_rfl) (fun _ _ _ h => h) (Or.inl ⟨by kernel_rfl, ?_⟩) (by exact g7) ?_
      rotate_left
      · intro u hSu
        obtain ⟨s0, s1, s2, s3, s4, s5, s6⟩ := hSu
        go_simp
        try with_reducible rfl
      try simp only [Act.put, List.setIfInBounds_toArray, List.set_cons_zero, List.set_cons_succ]
      refine wpAnyL_take (i := 1) (v := ?_) [2,3,4,7,10] rfl (by kernel_rfl) (by kernel_rfl) (by kernel_rfl) (by kernel_rfl) (fun _ _ _ h => h) (Or.inl ⟨by kernel_rfl, ?_⟩) (by exact g7) ?_
      rotate_left
      · intro u hSu
        obtain ⟨s0, s1, s2, s3, s4, s5, s6⟩ := hSu
        go_simp
        try with_reducible rfl
      try simp only [Act.put, List.setIfInBounds_toArray, List.set_cons_zero, List.set_cons_succ]
      refine wpAnyL_take (i := 2) (v := ?_) [3,4,7,10] rfl (by kernel_rfl) (by kernel_rfl) (by kernel_rfl) (by kernel_rfl) (fun _ _ _ h => h) (Or.inl ⟨by kernel_rfl, ?_⟩) (by exact g7) ?_
      rotate_left
      · intro u hSu
        obtain ⟨s0, s1, s2, s3, s4, s5, s6⟩ := hSu
        go_simp
        try with_reducible rfl
      try simp only [Act.put, List.setIfInBounds_toArray, List.set_cons_zero, List.set_cons_succ]
      refine wpAnyL_take (i := 3) (v := ?_) [4,7,10] rfl (by kernel_rfl) (by kernel_rfl) (by kernel_rfl) (by kernel_rfl) (fun _ _ _ h => h) (Or.inl ⟨by kernel_rfl, ?_⟩) (by exact g7) ?_
      rotate_left
      · intro u hSu
        obtain ⟨s0, s1, s2, s3, s4, s5, s6⟩ := hSu
        go_simp
        try with_reducible rfl
      try simp only [Act.put, List.setIfInBounds_toArray, List.set_cons_zero, List.set_cons_succ]
      refine wpAnyL_take (i := 4) (v := ?_) [7,10] rfl (by kernel_rfl) (by kernel_rfl) (by kernel_rfl) (by kernel_rfl) (fun _ _ _ h => h) (Or.inl ⟨by kernel_rfl, ?_⟩) (by exact g7) ?_
      rotate_left
      · intro u hSu
        obtain ⟨s0, s1, s2, s3, s4, s5, s6⟩ := hSu
        go_simp
        try with_reducible rfl
      try simp only [Act.put, List.setIfInBounds_toArray, List.set_cons_zero, List.set_cons_succ]
      refine wpAnyL_take (i := 5) (v := ?_) [6,7,10] rfl (by kernel_rfl) (by kernel_rfl) (by kernel_rfl) (by kernel_rfl) (fun _ _ _ h => h) (Or.inl ⟨by kernel_rfl, ?_⟩) (by exact g7) ?_
      rotate_left
      · intro u hSu
        obtain ⟨s0, s1, s2, s3, s4, s5, s6⟩ := hSu
        go_simp
        try with_reducible rfl
      try simp only [Act.put, List.setIfInBounds_toArray, List.set_cons_zero, List.set_cons_succ]
      refine wpAnyL_one (i := 6) (by kernel_rfl) rfl (fun K hK => ?_)
      go_simp
      have g7a : AtV (y7.drew.alloc (Obj.cells #[.string k1, .string k2, .bool (g == 1), .int .u64 T, .int .i64 dc, .int .i64 tx] 49)) mm aa (.slice A acc.length c) (⟨k1, k2, g == 1, T, dc, tx⟩ : Vr) := atV ((unhide VMa).alloc _) ((unhide VAa).alloc _)
      refine hK.out _ _ (fun _ => g7a) ?_
      clear hK K
      try simp only [Act.put, List.setIfInBounds_toArray, List.set_cons_zero, List.set_cons_succ]
      refine wpAnyL_one (i := 7) (by kernel_rfl) rfl (fun K hK => ?_)
      refine step_append_any _ rfl (.tmp 144) (.tmp 146) _ rfl w.heap.size 49 i0 _ 6 64 Try.underlying23 hi hz0 hz1 hz2 (by rfl) (by omega) (.slice A acc.length c) acc.length _ (by rfl) ((unhide VWa).alloc _) _ (some ⟨y7.drew.heap.size, 0, none⟩) 1 1 (vcs (⟨k1, k2, g == 1, T, dc, tx⟩ : Vr)) (by rfl) (rdV_new y7.drew (vcs (⟨k1, k2, g == 1, T, dc, tx⟩ : Vr)).toArray _ _) (by rfl) (vcs_one _) (by simp only [maxLen]; omega) (by omega) (by have := (unhide VOa).size; simp at this ⊢; omega) ?_
      intro A7 c7 x17 hown7 hg7 hat7 hbel7 hcc7
      have hb7 := ((unhide VMa).alloc (Obj.cells #[.string k1, .string k2, .bool (g == 1), .int .u64 T, .int .i64 dc, .int .i64 tx] 49)).grown hg7 (fun e => by have := (unhide VLa mm e.symm).1; omega)
      have ha7 := ((unhide VAa).alloc (Obj.cells #[.string k1, .string k2, .bool (g == 1), .int .u64 T, .int .i64 dc, .int .i64 tx] 49)).grown hg7 (fun e => by have := (unhide VLa aa e.symm).2; omega)
      have g7b : AtV x17 mm aa (.slice A acc.length c) (⟨k1, k2, g == 1, T, dc, tx⟩ : Vr) := atV hb7 ha7
      have z6 := hb7.frozen 6
      have VM7 := hide hb7
      have VW7 := hide hown7
      have VG7 := hide hg7
      clear hown7 hg7 hat7 hbel7 hb7 ha7
      refine hK.out _ _ (fun _ => g7b) ?_
      clear hK K
      try simp only [Act.put, List.setIfInBounds_toArray, List.set_cons_zero, List.set_cons_succ]
      refine wpAnyL_one (i := 8) (by kernel_rfl) rfl (fun K hK => ?_)
      go_simp
      refine hK.out _ _ (fun _ => g7b) ?_
      clear hK K
      try simp only [Act.put, List.setIfInBounds_toArray, List.set_cons_zero, List.set_cons_succ]
      refine wpAnyL_one (i := 9) (by kernel_rfl) rfl (fun K hK => ?_)
      go_simp
      refine hK.out _ _ (fun _ => g7b) ?_
      clear hK K
      try simp only [Act.put, List.setIfInBounds_toArray, List.set_cons_zero, List.set_cons_succ]
      refine wpAnyL_one (i := 10) (by kernel_rfl) rfl (fun K hK => ?_)
      obtain ⟨f6, g0, g1, g2, g3, g4, g5⟩ := g7b
      go_simp
      refine hK.out _ _ (fun h => absurd rfl h) ?_
      clear hK K
      try simp only [Act.put, List.setIfInBounds_toArray, List.set_cons_zero, List.set_cons_succ]
      refine wpAnyL_done (by kernel_rfl) ?_ _
      obtain ⟨hqa, hoa⟩ := q_grown_ends (i := 6) (u := .slice A7 (acc.length + 1) c7) (unhide VQa) (fun j hj => (unhide VLa j hj).1) (unhide VG7) hBm hne hRw
      have hoa2 := (unhide VOa).trans (hoa.mono (T := fun k => k = R ∨ k = mm ∨ w.heap.size ≤ k) fun j _ hj => by
        rcases hj with hj | hj
        · exact .inr (.inr (unhide VLa j hj).1)
        · exact .inr (.inl hj))
      have hva := own_only (unhide VVa) hoa (fun j hj e => by
        have h1 := unhide HVL j hj
        rcases e with e | e
        · have := (unhide VLa j e).1; omega
        · have := ((unhide VVa).lt j hj).1; omega)
      have hma := (unhide VM7).set_ 6 (.slice A7 (acc.length + 1) c7)
      have hwa := own_only (unhide VW7) (Only.setCell (S := fun k => k = mm) (p := ⟨mm, 6, none⟩) (Only.refl _ x17) rfl (.slice A7 (acc.length + 1) c7)) (fun k hk e => by have := ((unhide VW7).lt k hk).1; omega)
      obtain ⟨x18, hx8⟩ : ∃ u, x17.setCell ⟨mm, 6, none⟩ (.slice A7 (acc.length + 1) c7) = u := ⟨_, rfl⟩
      rw [hx8] at hqa hoa2 hva hma hwa ⊢
      have hqa := hide hqa
      have hoa2 := hide hoa2
      have hva := hide hva
      have hma := hide hma
      have hwa := hide hwa
      clear hx8 g7 g7a f6 g0 g1 g2 g3 g4 g5 hoa
      go_wp2_with fail
      have hma := unhide hma
      have hwa := unhide hwa
      have hl8 : (acc ++ [(⟨k1, k2, g == 1, T, dc, tx⟩ : Vr)]).length = acc.length + 1 := by simp
      have hv8 : vrow (acc ++ [(⟨k1, k2, g == 1, T, dc, tx⟩ : Vr)]) = vrow acc ++ vcs (⟨k1, k2, g == 1, T, dc, tx⟩ : Vr) := by simp [vrow]
      have hk8 := unhide HACC
      obtain ⟨hbad, hgood⟩ := ver_rd (t := s) (unhide HS1) (unhide HS2) (unhide HS3) (unhide HS4) (unhide HS5) (unhide HS6) (unhide HK1) (unhide HK2) (unhide HG) (unhide HTS) (unhide HDC) (unhide HTX)
      rw [unhide HT] at hgood
      refine ⟨⟨k + 1, by omega, by simp, unhide hoa2, ?_⟩, by simp only [intOf]; omega⟩
      rcases hS : S6 with er | q6
      · rw [hS] at hqa
        exact .inr ⟨er, _, T, rfl, unhide hqa, hma, by rw [Array.size_setIfInBounds]; rfl, (unhide HROW).trans (list_err (hbad er hS))⟩
      · rw [hS] at hqa
        refine .inl ⟨acc ++ [(⟨k1, k2, g == 1, T, dc, tx⟩ : Vr)], q6, A7, c7, by simp [lastOr], by rw [hl8, hk8], unhide hqa, ?_, ?_, unhide hva, ?_⟩
        · rw [← hl8] at hma; exact hma
        · rw [← hl8, ← hv8] at hwa; exact hwa
        · rw [show N - (k + 1) = N1 by omega]; exact vers_more (unhide HROW) (hgood q6 hS)
      -- v]
end Go.Proofs.Ytkgacehnpdijaaa
namespace Go.Proofs.Ytkgacehnpdijaaa
set_option linter.unusedVariables false
set_option linter.unusedSimpArgs false
open Go.RowKit Wire

set_option maxHeartbeats 8000000 in
set_option maxRecDepth 20000 in
theorem part_6 (v : Int) (m : Ms) (A : Option Addr) (c : Nat) (R B mm base : Nat) (b : List UInt8) (w : World) (hq : QAt w R B (.ok b)) (hm : Blk w mm 28 (mcells m A c none 0)) (h0 : m.vec = []) (hw : MOwn w base m A c none 0) (hne : mm ≠ R) (hBm : B ≤ mm) (hb : mm < base) (hbw : base ≤ w.heap.size) (hRb : R < base) :
    Calls Try.prog 44 #[.pointer (some ⟨R, 0, none⟩), .int .i64 v, .int .i64 6, .pointer (some ⟨mm, 0, none⟩)] w (PartOut v 6 m A c none 0 R B mm base b w) := by
  have HN8 : Hid (∀ u s, QAt u R B s → Calls Try.prog 64 #[.pointer (some ⟨R, 0, none⟩), .int .i64 v, .int .i64 8] u (QOut (numC v 8).rd 0 (Value.int .u64) R B s u)) := hide (fun u s h => q_number R B 8 v s u h (by omega) (by omega))
  have HN1 : Hid (∀ u s, QAt u R B s → Calls Try.prog 64 #[.pointer (some ⟨R, 0, none⟩), .int .i64 v, .int .i64 1] u (QOut (numC v 1).rd 0 (Value.int .u64) R B s u)) := hide (fun u s h => q_number R B 1 v s u h (by omega) (by omega))
  have HMU : Hid (∀ u s, QAt u R B (rdS (numC v 1).rd s) → Calls Try.prog 66 #[.pointer (some ⟨R, 0, none⟩), .int .u64 (rdV 0 (numC v 1).rd s), .int .u64 32, .int .i64 6] u fun e w' => e = .returned (.int .i64 (rdV 0 (most (numC v 1) 32 6).rd s)) ∧ QAt w' R B (rdS (most (numC v 1) 32 6).rd s) ∧ Only (fun k => k = R) u w') := hide (fun u s h => q_least R B 1 v s 32 6 u h (by omega) (by omega) (by omega) (by omega))
  have HM := hide hm
  have HW := hide hw
  have HQ := hide hq
  have HO := hide (Only.refl (fun k => k = R ∨ k = mm ∨ w.heap.size ≤ k) w)
  obtain ⟨j0, hj, hj0, hj1, hj2⟩ := info_parts u64info
  have hmw := hm.lt
  clear hq hm hw
  go_enter Try.func44, Try.ntmps44
  go_upto_region 35 with (first
    | (go_at_call 64; (with_reducible refine Calls.mono (unhide HN1 _ _ (unhide HQ)) ?_); go_must ((
       rintro _ u1 ⟨rfl, hq, ho⟩
       have HQ1 := hide hq
       have HO1 := hide ho
       clear hq ho)))
    | (go_at_call 66; (with_reducible refine Calls.mono (unhide HMU _ _ (unhide HQ1)) ?_); go_must ((
       rintro _ u2 ⟨rfl, hq, ho⟩
       have HQ2 := hide hq
       have HO2 := hide ((unhide HO1).trans ho)
       clear hq ho))))
  have hn := rdV_range (most_law (num_law v 1) 32 6) (P := fun n => 0 ≤ n ∧ n ≤ 32) ⟨by omega, by omega⟩ (fun n h => most_ok h) (.ok b)
  generalize hN : rdV 0 (most (numC v 1) 32 6).rd (.ok b) = N0 at hn ⊢
  obtain ⟨N, rfl⟩ := Int.eq_ofNat_of_zero_le hn.1
  have hN4 : N ≤ 32 := by omega
  have hrow0 : ∃ s0, rdS (most (numC v 1) 32 6).rd (.ok b) = s0 ∧ RowSt ((vecRow (numC v)).rd b) (fun _ : Unit => numC v 8) (fun _ => ()) () N [] s0 := by
    refine ⟨_, rfl, ?_⟩
    rcases hs : rdS (most (numC v 1) 32 6).rd (.ok b) with er | q
    · exact .inr ⟨er, rfl, row_err (rd_of_err hs)⟩
    · have h1 := rd_of_ok hs 0
      rw [hN] at h1
      exact .inl ⟨q, rfl, (row_rd (c := fun _ : Unit => numC v 8) (next := fun _ => ()) (s := ()) h1).trans (mapE_id _).symm⟩
  obtain ⟨s0, hs0, hrow⟩ := hrow0
  rw [hs0] at HQ2
  have HROW := hide hrow
  have HM2 := hide ((unhide HM).only (unhide HO2) (fun e => hne e))
  have HVL := hide (fun k (hk : (Value.slice A m.vers.length c).ownBlock = some k) => ((unhide HW).vers.lt k hk).2)
  have HV2 : Hid (u2.ownsRow base 49 6 (.slice A m.vers.length c) m.vers.length (vrow m.vers)) := hide (own_only (unhide HW).vers (unhide HO2) (fun k hk e => by have := ((unhide HW).vers.lt k hk).1; omega))
  have HO3 := hide (show Only (fun k => k = R ∨ k = mm ∨ w.heap.size ≤ k) w u2 from (unhide HO2).mono fun k _ hk => .inl hk)
  clear hrow hs0 hN hn HO1 HO2 HQ1 HW HM HO HQ HN1 HMU
  go_wp2_with fail
  go_loopw [14] (fun i wr => ∃ (k : Nat), k ≤ N ∧ i = .int .i64 k ∧ Only (fun k => k = R ∨ k = mm ∨ w.heap.size ≤ k) w wr ∧
    ((∃ acc q vA vc, List.length acc = k ∧ QAt wr R B (.ok q) ∧ Blk wr mm 28 (mcells { m with vec := acc } A c vA vc) ∧ wr.ownsRow w.heap.size 22 1 (.slice vA acc.length vc) acc.length (acc.map (Value.int .u64)) ∧ wr.ownsRow base 49 6 (.slice A m.vers.length c) m.vers.length (vrow m.vers) ∧
      (vecRow (numC v)).rd b = mapE (fun l => acc ++ l) (rdL (fun _ : Unit => numC v 8) (fun _ => ()) (N - k) () q)) ∨
     ∃ er cs, QAt wr R B (.error er) ∧ Blk wr mm 28 cs ∧ cs.size = 14 ∧ (vecRow (numC v)).rd b = .error er)) (fun i _ => N - (intOf i).toNat)
  case atStart =>
    refine ⟨0, by omega, rfl, unhide HO3, ?_⟩
    rcases unhide HROW with ⟨q, rfl, hx⟩ | ⟨er, rfl, hx⟩
    · exact .inl ⟨[], q, none, 0, rfl, unhide HQ2, by have h := unhide HM2; rw [show ({ m with vec := [] } : Ms) = m by rw [← h0]]; exact h, own_nil _ _ _ _, unhide HV2, hx⟩
    · exact .inr ⟨er, _, unhide HQ2, unhide HM2, rfl, hx⟩
  case round =>
    clear HQ2 HM2 HV2 HO3 HROW
    obtain ⟨k, hk, rfl, ho, hcase⟩ := hrel
    have HO3 := hide ho
    clear ho
    rcases hcase with ⟨acc, q, vA, vc, hacc, hq, hm, hown, hvec, hrow⟩ | ⟨er, cs, hq, hm, hcs, hx⟩
    rotate_left
    · have hne0 := hq.nz
      have HQ := hide hq
      obtain ⟨A2, c2, l2, e2, hb2, _, _, _, _, ⟨hx1, _⟩ | ⟨hx1, _⟩⟩ := hq
      · cases hx1
      injection hx1 with hx1
      subst hx1
      obtain ⟨f0, f1, z0, z1⟩ := qcells hb2
      have g1 : (er == 0) = false := by simp [hne0]
      have HM := hide hm
      have HX := hide hx
      clear hb2 hm hx hne0
      by_cases hlt : k < N
      all_goals
        go_wp2_with fail
        go_ret
        exact .inl ⟨er, _, cs, (show partStep v 6 m b = _ by show mapE _ _ = _; rw [unhide HX]; rfl), rfl, unhide HQ, unhide HM, hcs, (unhide HO3).mono fun k hk hs => by rcases hs with hs | hs | hs <;> first | exact .inl hs | exact .inr hs | omega⟩
    have HQ3 := hide hq
    have HM3 := hide hm
    have HW3 := hide hown
    have HV3 := hide hvec
    have HROW := hide hrow
    have HACC := hide hacc
    have hmr := hm.lt
    have hwr := (unhide HO3).size
    clear hm hown hvec hrow hacc
    obtain ⟨A2, c2, l2, e2, hb2, _, _, _, _, ⟨hx1, he2⟩ | ⟨hx1, _⟩⟩ := hq
    rotate_left
    · cases hx1
    subst he2
    injection hx1 with hx1
    subst hx1
    obtain ⟨f0, f1, z0, z1⟩ := qcells hb2
    clear hb2
    by_cases hlt : k < N
    rotate_left
    · have hkN : k = N := by omega
      subst hkN
      have hrow1 := unhide HROW
      rw [Nat.sub_self] at hrow1
      have HR := hide (row_end hrow1)
      clear hrow1 HROW
      go_wp2_with fail
      go_ret
      refine .inr ⟨{ m with vec := acc }, nzL acc, q, A, c, vA, vc, (show partStep v 6 m b = _ by show mapE _ _ = _; rw [unhide HR]; rfl), ?_, unhide HQ3, unhide HM3, ⟨unhide HV3, own_more (unhide HW3) (fun g hg => Nat.le_trans hbw ((unhide HW3).lt g hg).1)⟩, ((unhide HO3).mono fun k hk hs => by rcases hs with hs | hs | hs <;> first | exact .inl hs | exact .inr hs | omega), fun _ => ⟨rfl, rfl⟩, fun h => absurd rfl h⟩
      have ha := unhide HACC
      rw [← lenB' acc, ha]
      rfl
    obtain ⟨N1, hN1⟩ : ∃ x, N - k = x + 1 := ⟨N - k - 1, by omega⟩
    rw [hN1] at HROW
    have hal : acc.length ≤ 32 := by rw [unhide HACC]; omega
    have hRw : R < w.heap.size := by omega
    have hRr : R < wr.heap.size := by omega
    have VQ0 : Hid (QAt wr.drew R B (.ok q)) := hide ((unhide HQ3).only (S := fun _ => False) (Only.refl _ _).drew (fun _ h => h.elim))
    have VM0 : Hid (Blk wr.drew mm 28 (mcells { m with vec := acc } A c vA vc)) := HM3
    have VW0 : Hid (wr.drew.ownsRow w.heap.size 22 1 (.slice vA acc.length vc) acc.length (acc.map (Value.int .u64))) := HW3
    have VV0 : Hid (wr.drew.ownsRow base 49 6 (.slice A m.vers.length c) m.vers.length (vrow m.vers)) := HV3
    have VO0 : Hid (Only (fun k => k = R ∨ k = mm ∨ w.heap.size ≤ k) w wr.drew) := hide (unhide HO3).drew
    have VLa : Hid (∀ j, (Value.slice vA acc.length vc).ownBlock = some j → w.heap.size ≤ j ∧ j < wr.heap.size) := hide (fun j hj => (unhide HW3).lt j hj)
    go_upto_region 38 with fail
    have f7d : wr.drew.cell? ⟨mm, 7, none⟩ = some (.slice vA acc.length vc) := (unhide VM0).cell 7
    refine wp_region_L 12 (fun u => u.cell? ⟨mm, 7, none⟩ = some (.slice vA acc.length vc)) (by kernel_rfl) ?_
    refine wpAnyL_take (i := 0) (v := ?_) [12] rfl (by kernel_rfl) (by kernel_rfl) (by kernel_rfl) (by kernel_rfl) (fun _ _ _ h => h) (Or.inl ⟨by kernel_rfl, ?_⟩) (by exact f7d) ?_
    rotate_left
    · intro u hSu
      go_simp
      try with_reducible rfl
    try simp only [Act.put, List.setIfInBounds_toArray, List.set_cons_zero, List.set_cons_succ]
    refine wpAnyL_take (i := 1) (v := ?_) [12] rfl (by kernel_rfl) (by kernel_rfl) (by kernel_rfl) (by kernel_rfl) (fun _ _ _ h => h) (Or.inl ⟨by kernel_rfl, ?_⟩) (by exact f7d) ?_
    rotate_left
    · intro u hSu
      go_simp
      try with_reducible rfl
    try simp only [Act.put, List.setIfInBounds_toArray, List.set_cons_zero, List.set_cons_succ]
    refine wpAnyL_take (i := 2) (v := ?_) [12] rfl (by kernel_rfl) (by kernel_rfl) (by kernel_rfl) (by kernel_rfl) (fun _ _ _ h => h) (Or.inl ⟨by kernel_rfl, ?_⟩) (by exact f7d) ?_
    rotate_left
    · intro u hSu
      go_simp
      try with_reducible rfl
    try simp only [Act.put, List.setIfInBounds_toArray, List.set_cons_zero, List.set_cons_succ]
    refine wpAnyL_take (i := 3) (v := ?_) [12] rfl (by kernel_rfl) (by kernel_rfl) (by kernel_rfl) (by kernel_rfl) (fun _ _ _ h => h) (Or.inl ⟨by kernel_rfl, ?_⟩) (by exact f7d) ?_
    rotate_left
    · intro u hSu
      go_simp
      try with_reducible rfl
    try simp only [Act.put, List.setIfInBounds_toArray, List.set_cons_zero, List.set_cons_succ]
    refine wpAnyL_take (i := 4) (v := ?_) [12] rfl (by kernel_rfl) (by kernel_rfl) (by kernel_rfl) (by kernel_rfl) (fun _ _ _ h => h) (Or.inl ⟨by kernel_rfl, ?_⟩) (by exact f7d) ?_
    rotate_left
    · intro u hSu
      go_simp
      try with_reducible rfl
    try simp only [Act.put, List.setIfInBounds_toArray, List.set_cons_zero, List.set_cons_succ]
    refine wpAnyL_take (i := 5) (v := ?_) [12] rfl (by kernel_rfl) (by kernel_rfl) (by kernel_rfl) (by kernel_rfl) (fun _ _ _ h => h) (Or.inl ⟨by kernel_rfl, ?_⟩) (by exact f7d) ?_
    rotate_left
    · intro u hSu
      go_simp
      try with_reducible rfl
    try simp only [Act.put, List.setIfInBounds_toArray, List.set_cons_zero, List.set_cons_succ]
    refine wpAnyL_take (i := 6) (v := ?_) [12] rfl (by kernel_rfl) (by kernel_rfl) (by kernel_rfl) (by kernel_rfl) (fun _ _ _ h => h) (Or.inl ⟨by kernel_rfl, ?_⟩) (by exact f7d) ?_
    rotate_left
    · intro u hSu
      go_simp
      try with_reducible rfl
    try simp only [Act.put, List.setIfInBounds_toArray, List.set_cons_zero, List.set_cons_succ]
    refine wpAnyL_one (i := 7) (by kernel_rfl) rfl (fun K hK => ?_)
    go_simp
    go_at_call 64
    (with_reducible refine Calls.mono (unhide HN8 _ _ (unhide VQ0)) ?_)
    rintro _ x1 ⟨rfl, hq1, ho1⟩
    generalize h1 : rdS (numC v 8).rd (.ok q) = S1 at hq1
    generalize h2 : rdV 0 (numC v 8).rd (.ok q) = v1
    have HS1 := hide h1
    have HV1 := hide h2
    have VQ1 := hide hq1
    have hk1 := (unhide VM0).only ho1 (fun e => hne e)
    have VM1 := hide hk1
    have VO1 := hide ((unhide VO0).trans (ho1.mono fun k _ hk => .inl hk))
    have VW1 := hide (own_only (unhide VW0) ho1 (fun k hk e => by have := ((unhide VW0).lt k hk).1; omega))
    have VV1 := hide (own_only (unhide VV0) ho1 (fun k hk e => by have := ((unhide VV0).lt k hk).1; omega))
    have hs1 := ho1.size
    have f7 : x1.cell? ⟨mm, 7, none⟩ = some (.slice vA acc.length vc) := hk1.cell 7
    have z7 := hk1.frozen 7
    clear h1 h2 hq1 ho1 hk1
    refine hK.out _ _ (fun _ => f7) ?_
    clear hK K
    try simp only [Act.put, List.setIfInBounds_toArray, List.set_cons_zero, List.set_cons_succ]
    refine wpAnyL_one (i := 8) (by kernel_rfl) rfl (fun K hK => ?_)
    go_simp
    have f7a := ((unhide VM1).alloc (.cells #[.int .u64 v1] 22)).cell 7
    refine hK.out _ _ (fun _ => f7a) ?_
    clear hK K
    try simp only [Act.put, List.setIfInBounds_toArray, List.set_cons_zero, List.set_cons_succ]
    refine wpAnyL_one (i := 9) (by kernel_rfl) rfl (fun K hK => ?_)
    refine step_append_any _ rfl (.tmp 175) (.tmp 179) _ rfl w.heap.size 22 j0 _ 1 8 Try.underlying24 hj hj0 hj1 hj2 (by rfl) (by omega) (.slice vA acc.length vc) acc.length _ (by rfl) ((unhide VW1).alloc _) _ (some ⟨x1.heap.size, 0, none⟩) 1 1 [.int .u64 v1] (by rfl) (rdV_new x1 #[.int .u64 v1] _ _) (by rfl) (by intro u hu; simp only [List.mem_singleton] at hu; subst hu; rfl) (by simp only [maxLen]; omega) (by omega) (by have := (unhide VO1).size; simp; omega) ?_
    intro A7 c7 x7 hown7 hg7 hat7 hbel7 hcc7
    have hb7 := ((unhide VM1).alloc (.cells #[.int .u64 v1] 22)).grown hg7 (fun e => by have := (unhide VLa mm e.symm).1; omega)
    have f7 : x7.cell? ⟨mm, 7, none⟩ = some (.slice vA acc.length vc) := hb7.cell 7
    have z7 := hb7.frozen 7
    have VM7 := hide hb7
    have VW7 := hide hown7
    have VG7 := hide hg7
    clear hown7 hg7 hat7 hbel7 hb7
    refine hK.out _ _ (fun _ => f7) ?_
    clear hK K
    try simp only [Act.put, List.setIfInBounds_toArray, List.set_cons_zero, List.set_cons_succ]
    refine wpAnyL_one (i := 10) (by kernel_rfl) rfl (fun K hK => ?_)
    go_simp
    refine hK.out _ _ (fun _ => f7) ?_
    clear hK K
    try simp only [Act.put, List.setIfInBounds_toArray, List.set_cons_zero, List.set_cons_succ]
    refine wpAnyL_one (i := 11) (by kernel_rfl) rfl (fun K hK => ?_)
    go_simp
    refine hK.out _ _ (fun _ => f7) ?_
    clear hK K
    try simp only [Act.put, List.setIfInBounds_toArray, List.set_cons_zero, List.set_cons_succ]
    refine wpAnyL_one (i := 12) (by kernel_rfl) rfl (fun K hK => ?_)
    go_simp
    refine hK.out _ _ (fun h => absurd rfl h) ?_
    clear hK K
    try simp only [Act.put, List.setIfInBounds_toArray, List.set_cons_zero, List.set_cons_succ]
    refine wpAnyL_done (by kernel_rfl) ?_ _
    obtain ⟨hqa, hoa⟩ := q_grown_ends (i := 7) (u := .slice A7 (acc.length + 1) c7) (unhide VQ1) (fun j hj => (unhide VLa j hj).1) (unhide VG7) hBm hne hRw
    have hoa2 := (unhide VO1).trans (hoa.mono (T := fun k => k = R ∨ k = mm ∨ w.heap.size ≤ k) fun j _ hj => by
      rcases hj with hj | hj
      · exact .inr (.inr (unhide VLa j hj).1)
      · exact .inr (.inl hj))
    have hva := own_only (unhide VV1) hoa (fun j hj e => by
      have h1 := unhide HVL j hj
      rcases e with e | e
      · have := (unhide VLa j e).1; omega
      · have := ((unhide VV1).lt j hj).1; omega)
    have hma := (unhide VM7).set_ 7 (.slice A7 (acc.length + 1) c7)
    have hwa := own_only (unhide VW7) (Only.setCell (S := fun k => k = mm) (p := ⟨mm, 7, none⟩) (Only.refl _ x7) rfl (.slice A7 (acc.length + 1) c7)) (fun k hk e => by have := ((unhide VW7).lt k hk).1; omega)
    obtain ⟨x8, hx8⟩ : ∃ u, x7.setCell ⟨mm, 7, none⟩ (.slice A7 (acc.length + 1) c7) = u := ⟨_, rfl⟩
    rw [hx8] at hqa hoa2 hva hma hwa ⊢
    have hqa := hide hqa
    have hoa2 := hide hoa2
    have hva := hide hva
    have hma := hide hma
    have hwa := hide hwa
    clear hx8 f7 f7a f7d hoa
    go_wp2_with fail
    have hma := unhide hma
    have hwa := unhide hwa
    have hl8 : (acc ++ [v1]).length = acc.length + 1 := by simp
    have hv8 : (acc ++ [v1]).map (Value.int .u64) = acc.map (Value.int .u64) ++ [.int .u64 v1] := by simp
    have hk8 := unhide HACC
    refine ⟨⟨k + 1, by omega, by simp, unhide hoa2, ?_⟩, by simp only [intOf]; omega⟩
    rcases hS : S1 with er | q6
    · rw [hS] at hqa
      exact .inr ⟨er, _, unhide hqa, hma, by rw [Array.size_setIfInBounds]; rfl, (unhide HROW).trans (list_err (c := fun _ : Unit => numC v 8) (s := ()) (rd_of_err ((unhide HS1).trans hS)))⟩
    · rw [hS] at hqa
      have hr := rd_of_ok ((unhide HS1).trans hS) 0
      rw [unhide HV1] at hr
      refine .inl ⟨acc ++ [v1], q6, A7, c7, by rw [hl8, hk8], unhide hqa, ?_, ?_, unhide hva, ?_⟩
      · rw [← hl8] at hma; exact hma
      · rw [← hl8, ← hv8] at hwa; exact hwa
      · rw [show N - (k + 1) = N1 by omega]; exact ints_more (unhide HROW) hr
end Go.Proofs.Ytkgacehnpdijaaa
namespace Go.Proofs.Ytkgacehnpdijaaa
set_option linter.unusedVariables false
set_option linter.unusedSimpArgs false
open Go.RowKit Wire

theorem intinfo : (Try.prog.info? 3).map (fun i => (i.zero, i.size, i.bytes)) = some (some (.int .i64 0), 1, 8) := by kernel_rfl
theorem own_cell {w : World} {base : Nat} {e : TypeId} {n : Nat} {xs : List Value} {g c : Nat} (h : w.ownsRow base e 1 (.slice (some ⟨g, 0, none⟩) n c) n xs) {j : Nat} {u : Value} (hj : xs[j]? = some u) : w.cell? ⟨g, j, none⟩ = some u := by
  have := h.cells (g := g) rfl j u hj
  rwa [add_zero_off] at this
theorem rowSt_step {x : Except Int (List Int × List UInt8)} {c : Cd Int} {acc : List Int} {n : Nat} {s S1 : RS} {v1 : Int} (h : RowSt x (fun _ : Unit => c) (fun _ => ()) () (n + 1) acc s) (h1 : rdS c.rd s = S1) (h2 : rdV 0 c.rd s = v1) :
    RowSt x (fun _ : Unit => c) (fun _ => ()) () n (acc ++ [v1]) S1 := by
  rcases h with ⟨q, rfl, hx⟩ | ⟨er, rfl, hx⟩
  · rcases hS : S1 with er | q1
    · exact .inr ⟨er, rfl, hx.trans (list_err (c := fun _ : Unit => c) (s := ()) (rd_of_err (h1.trans hS)))⟩
    · have hr := rd_of_ok (h1.trans hS) 0
      rw [h2] at hr
      exact .inl ⟨q1, rfl, ints_more hx hr⟩
  · exact .inr ⟨er, by rw [← h1]; rfl, hx⟩
theorem cmd_end {v : Int} {b : List UInt8} {c0 c1 c2 c3 c4 : Int} {s S1 : RS} {X : ByteArray} (h : RowSt ((fiveC (most (numC v 1) 255 1)).rd b) (fun _ : Unit => most (numC v 1) 255 1) (fun _ => ()) () 0 [c0, c1, c2, c3, c4] s) (h1 : rdS (textC (numC v 1) 16).rd s = S1) (h2 : rdV ByteArray.empty (textC (numC v 1) 16).rd s = X) :
    (∀ er, S1 = .error er → (cmdC (numC v)).rd b = .error er) ∧ ∀ q, S1 = .ok q → (cmdC (numC v)).rd b = .ok (⟨c0, c1, c2, c3, c4, X⟩, q) := by
  rw [cmd_five]
  rcases h with ⟨q, rfl, hx⟩ | ⟨er, rfl, hx⟩
  · have hx := row_end hx
    refine ⟨fun er he => ?_, fun q1 hq => ?_⟩
    · rw [seq_ok hx]
      exact end_err (rd_of_err (h1.trans he))
    · rw [seq_ok hx]
      have hr := rd_of_ok (h1.trans hq) ByteArray.empty
      rw [h2] at hr
      exact end_ok hr
  · have e1 : S1 = .error er := by rw [← h1]; rfl
    refine ⟨fun e he => ?_, fun q1 hq => ?_⟩
    · rw [e1] at he
      injection he with he
      subst he
      exact seq_err hx
    · rw [e1] at hq; cases hq
set_option maxHeartbeats 8000000 in
set_option maxRecDepth 20000 in
theorem part_7 (v : Int) (m : Ms) (A : Option Addr) (c : Nat) (vA : Option Addr) (vc : Nat) (R B mm base : Nat) (b : List UInt8) (w : World) (hq : QAt w R B (.ok b)) (hm : Blk w mm 28 (mcells m A c vA vc)) (hw : MOwn w base m A c vA vc) (hne : mm ≠ R) (hBm : B ≤ mm) (hb : mm < base) (hbw : base ≤ w.heap.size) (hRb : R < base) :
    Calls Try.prog 44 #[.pointer (some ⟨R, 0, none⟩), .int .i64 v, .int .i64 7, .pointer (some ⟨mm, 0, none⟩)] w (PartOut v 7 m A c vA vc R B mm base b w) := by
  have HN1 : Hid (∀ u s, QAt u R B s → Calls Try.prog 64 #[.pointer (some ⟨R, 0, none⟩), .int .i64 v, .int .i64 1] u (QOut (numC v 1).rd 0 (Value.int .u64) R B s u)) := hide (fun u s h => q_number R B 1 v s u h (by omega) (by omega))
  have HMU : Hid (∀ u s, QAt u R B (rdS (numC v 1).rd s) → Calls Try.prog 66 #[.pointer (some ⟨R, 0, none⟩), .int .u64 (rdV 0 (numC v 1).rd s), .int .u64 255, .int .i64 1] u fun e w' => e = .returned (.int .i64 (rdV 0 (most (numC v 1) 255 1).rd s)) ∧ QAt w' R B (rdS (most (numC v 1) 255 1).rd s) ∧ Only (fun k => k = R) u w') := hide (fun u s h => q_least R B 1 v s 255 1 u h (by omega) (by omega) (by omega) (by omega))
  have HT16 : Hid (∀ u s, QAt u R B s → Calls Try.prog 65 #[.pointer (some ⟨R, 0, none⟩), .int .i64 v, .int .i64 16] u (QOut (textC (numC v 1) 16).rd ByteArray.empty Value.string R B s u)) := hide (fun u s h => q_text R B v 16 s u h (by omega) (by omega))
  have HM := hide hm
  have HW := hide hw
  have HQ := hide hq
  obtain ⟨i0, hi, hz0, hz1, hz2⟩ := info_parts intinfo
  have hmw := hm.lt
  clear hq hm hw
  go_enter Try.func44, Try.ntmps44
  go_upto_region 41 with fail
  obtain ⟨u1, hu1⟩ : ∃ u, w.alloc (.cells #[] 3) = u := ⟨_, rfl⟩
  have hmb := (unhide HM)
  have HQ1 : Hid (QAt u1 R B (.ok b)) := hide (by rw [← hu1]; exact (unhide HQ).only (S := fun _ => False) ((Only.refl _ _).alloc _) (fun _ h => h.elim))
  have HL1 : Hid (u1.ownsRow w.heap.size 3 1 (.slice (some ⟨w.heap.size, 0, none⟩) 0 0) 0 []) := hide (by rw [← hu1]; exact own_new w w.heap.size #[] 3 0 [] (Nat.le_refl _) (by simp [maxLen]) rfl rfl)
  have HO1 : Hid (Only (fun k => k = R ∨ w.heap.size ≤ k) w u1) := hide (by rw [← hu1]; exact (Only.refl _ _).alloc _)
  rw [hu1]
  clear hu1 hmb
  go_wp2_with fail
  go_loopw [15, 16] (fun l i wr => ∃ (k : Nat) (acc : List Int) (s : RS) (g cc : Nat), k ≤ 5 ∧ i = .int .i64 k ∧ acc.length = k ∧ l = .slice (some ⟨g, 0, none⟩) k cc ∧ k ≤ cc ∧ QAt wr R B s ∧ wr.ownsRow w.heap.size 3 1 (.slice (some ⟨g, 0, none⟩) k cc) k (acc.map (Value.int .i64)) ∧ Only (fun k => k = R ∨ w.heap.size ≤ k) w wr ∧ RowSt ((fiveC (most (numC v 1) 255 1)).rd b) (fun _ : Unit => most (numC v 1) 255 1) (fun _ => ()) () (5 - k) acc s) (fun _ i _ => 5 - (intOf i).toNat)
  case atStart => exact ⟨0, [], .ok b, w.heap.size, 0, by omega, rfl, rfl, rfl, by omega, unhide HQ1, unhide HL1, unhide HO1, .inl ⟨b, rfl, five_rd _ _⟩⟩
  case round =>
    clear HQ1 HL1 HO1
    obtain ⟨k, acc, s, g, cc, hk, rfl, hacc, rfl, hkc, hq, hl, ho, hrow⟩ := hrel
    have HQ3 := hide hq
    have HL3 := hide hl
    have HO3 := hide ho
    have HROW := hide hrow
    have HACC := hide hacc
    have hwr := ho.size
    clear hq hl ho hrow hacc
    by_cases hlt : k < 5
    · obtain ⟨N1, hN1⟩ : ∃ x, 5 - k = x + 1 := ⟨5 - k - 1, by omega⟩
      rw [hN1] at HROW
      have hRw : R < w.heap.size := by omega
      have HLA : Hid (∀ j, (Value.slice (some ⟨g, 0, none⟩) k cc).ownBlock = some j → w.heap.size ≤ j ∧ j < wr.heap.size) := hide (fun j hj => (unhide HL3).lt j hj)
      go_wp2_with (first
        | (go_at_call 66; (with_reducible refine Calls.mono (unhide HMU _ _ (unhide HQ4)) ?_); go_must ((
           rintro _ x2 ⟨rfl, hq, ho⟩
           generalize h1 : rdS (most (numC v 1) 255 1).rd s = S1 at hq
           generalize h2 : rdV 0 (most (numC v 1) 255 1).rd s = v1
           have HS1 := hide h1
           have HV1 := hide h2
           have HQ5 := hide hq
           have HL5 := hide (own_only (unhide HL4) ho (fun j hj e => by have := (unhide HLA j hj).1; omega))
           have HO5 := hide ((unhide HO4).trans (ho.mono fun k _ hk => .inl hk))
           clear h1 h2 hq ho)))
        | (go_at_call 64; (with_reducible refine Calls.mono (unhide HN1 _ _ (unhide HQ3)) ?_); go_must ((
           rintro _ x1 ⟨rfl, hq, ho⟩
           have HQ4 := hide hq
           have HL4 := hide (own_only (unhide HL3) ho (fun j hj e => by have := (unhide HLA j hj).1; omega))
           have HO4 := hide ((unhide HO3).trans (ho.mono fun k _ hk => .inl hk))
           clear hq ho)))
        | (refine wpList_append_any _ rfl (.tmp 190) (.tmp 196) _ rfl w.heap.size 3 i0 _ 1 8 Try.underlying56 hi hz0 hz1 hz2 (by rfl) (by omega) (.slice (some ⟨g, 0, none⟩) k cc) k _ (by rfl) ((unhide HL5).alloc _) _ (some ⟨x2.heap.size, 0, none⟩) 1 1 [.int .i64 v1] (by rfl) (rdV_new x2 #[.int .i64 v1] _ _) (by rfl) (by intro u hu; simp only [List.mem_singleton] at hu; subst hu; rfl) (by simp only [maxLen]; omega) (by omega) (by have := (unhide HO5).size; simp; omega) ?_
           intro A7 c7 x7 hown7 hg7 hat7 hbel7 hcc7
           have HL7 := hide hown7
           have HQ7 := hide ((unhide HQ5).only (((Only.refl (fun j => (Value.slice (some ⟨g, 0, none⟩) k cc).ownBlock = some j) x2).alloc (.cells #[.int .i64 v1] 3)).trans (Only.of_grown hg7 fun j hj => hj)) (fun j hj => by have := (unhide HLA j hj).1; have := (unhide HQ5).le; omega))
           have HO7 := hide ((unhide HO5).trans ((((Only.refl (fun j => (Value.slice (some ⟨g, 0, none⟩) k cc).ownBlock = some j) x2).alloc (.cells #[.int .i64 v1] 3)).trans (Only.of_grown hg7 fun j hj => hj)).mono (fun j _ hj => .inr (unhide HLA j hj).1)))
           clear hown7 hg7 hat7 hbel7))
      have hL7 := unhide HL7
      obtain ⟨g7, cp7, hv7, _, _⟩ := hL7.form (by omega)
      simp only [Value.slice.injEq] at hv7
      obtain ⟨rfl, _, _⟩ := hv7
      have hv8 : (acc ++ [v1]).map (Value.int .i64) = acc.map (Value.int .i64) ++ [.int .i64 v1] := by simp
      refine ⟨⟨k + 1, acc ++ [v1], S1, g7, c7, by omega, by simp, by rw [List.length_append, unhide HACC]; rfl, rfl, hcc7, unhide HQ7, by rw [hv8]; exact hL7, unhide HO7, ?_⟩, by simp only [intOf]; omega⟩
      rw [show 5 - (k + 1) = N1 by omega]
      exact rowSt_step (unhide HROW) (unhide HS1) (unhide HV1)
    · have hk5 : k = 5 := by omega
      subst hk5
      obtain ⟨w12, rfl⟩ : ∃ u, u = wr := ⟨_, rfl⟩
      obtain ⟨c0, c1, c2, c3, c4, rfl⟩ := five_of (unhide HACC)
      rw [Nat.sub_self] at HROW
      have hRw : R < w.heap.size := by omega
      have VQ0 : Hid (QAt w12.drew R B s) := hide ((unhide HQ3).only (S := fun _ => False) (Only.refl _ _).drew (fun _ h => h.elim))
      have VO0 : Hid (Only (fun k => k = R ∨ w.heap.size ≤ k) w w12.drew) := hide (unhide HO3).drew
      have VL0 : Hid (w12.drew.ownsRow w.heap.size 3 1 (.slice (some ⟨g, 0, none⟩) 5 cc) 5 ([c0, c1, c2, c3, c4].map (Value.int .i64))) := HL3
      have hgw : w.heap.size ≤ g := ((unhide HL3).lt g rfl).1
      have g5 : At5 w12.drew g c0 c1 c2 c3 c4 := ⟨own_cell (unhide VL0) (j := 0) rfl, own_cell (unhide VL0) (j := 1) rfl, own_cell (unhide VL0) (j := 2) rfl, own_cell (unhide VL0) (j := 3) rfl, own_cell (unhide VL0) (j := 4) rfl⟩
      clear HQ3 HL3 HO3
      go_upto_region 45 with fail
      refine wp_region_L 22 (fun u => At5 u g c0 c1 c2 c3 c4) (by kernel_rfl) ?_
      refine wpAnyL_take (i := 0) (v := ?_) [22] rfl (by kernel_rfl) (by kernel_rfl) (by kernel_rfl) (by kernel_rfl) (fun _ _ _ h => h) (Or.inl ⟨by kernel_rfl, ?_⟩) (by exact g5) ?_
      rotate_left
      · intro u hSu
        obtain ⟨s0, s1, s2, s3, s4⟩ := hSu
        go_simp
        try with_reducible rfl
      try simp only [Act.put, List.setIfInBounds_toArray, List.set_cons_zero, List.set_cons_succ]
      refine wpAnyL_take (i := 1) (v := ?_) [22] rfl (by kernel_rfl) (by kernel_rfl) (by kernel_rfl) (by kernel_rfl) (fun _ _ _ h => h) (Or.inl ⟨by kernel_rfl, ?_⟩) (by exact g5) ?_
      rotate_left
      · intro u hSu
        obtain ⟨s0, s1, s2, s3, s4⟩ := hSu
        go_simp
        try with_reducible rfl
      try simp only [Act.put, List.setIfInBounds_toArray, List.set_cons_zero, List.set_cons_succ]
      refine wpAnyL_take (i := 2) (v := ?_) [22] rfl (by kernel_rfl) (by kernel_rfl) (by kernel_rfl) (by kernel_rfl) (fun _ _ _ h => h) (Or.inl ⟨by kernel_rfl, ?_⟩) (by exact g5) ?_
      rotate_left
      · intro u hSu
        obtain ⟨s0, s1, s2, s3, s4⟩ := hSu
        go_simp
        try with_reducible rfl
      try simp only [Act.put, List.setIfInBounds_toArray, List.set_cons_zero, List.set_cons_succ]
      refine wpAnyL_take (i := 3) (v := ?_) [22] rfl (by kernel_rfl) (by kernel_rfl) (by kernel_rfl) (by kernel_rfl) (fun _ _ _ h => h) (Or.inl ⟨by kernel_rfl, ?_⟩) (by exact g5) ?_
      rotate_left
      · intro u hSu
        obtain ⟨s0, s1, s2, s3, s4⟩ := hSu
        go_simp
        try with_reducible rfl
      try simp only [Act.put, List.setIfInBounds_toArray, List.set_cons_zero, List.set_cons_succ]
      refine wpAnyL_take (i := 4) (v := ?_) [22] rfl (by kernel_rfl) (by kernel_rfl) (by kernel_rfl) (by kernel_rfl) (fun _ _ _ h => h) (Or.inl ⟨by kernel_rfl, ?_⟩) (by exact g5) ?_
      rotate_left
      · intro u hSu
        obtain ⟨s0, s1, s2, s3, s4⟩ := hSu
        go_simp
        try with_reducible rfl
      try simp only [Act.put, List.setIfInBounds_toArray, List.set_cons_zero, List.set_cons_succ]
      refine wpAnyL_take (i := 5) (v := ?_) [22] rfl (by kernel_rfl) (by kernel_rfl) (by kernel_rfl) (by kernel_rfl) (fun _ _ _ h => h) (Or.inl ⟨by kernel_rfl, ?_⟩) (by exact g5) ?_
      rotate_left
      · intro u hSu
        obtain ⟨s0, s1, s2, s3, s4⟩ := hSu
        go_simp
        try with_reducible rfl
      try simp only [Act.put, List.setIfInBounds_toArray, List.set_cons_zero, List.set_cons_succ]
      refine wpAnyL_take (i := 6) (v := ?_) [22] rfl (by kernel_rfl) (by kernel_rfl) (by kernel_rfl) (by kernel_rfl) (fun _ _ _ h => h) (Or.inl ⟨by kernel_rfl, ?_⟩) (by exact g5) ?_
      rotate_left
      · intro u hSu
        obtain ⟨s0, s1, s2, s3, s4⟩ := hSu
        go_simp
        try with_reducible rfl
      try simp only [Act.put, List.setIfInBounds_toArray, List.set_cons_zero, List.set_cons_succ]
      refine wpAnyL_take (i := 7) (v := ?_) [22] rfl (by kernel_rfl) (by kernel_rfl) (by kernel_rfl) (by kernel_rfl) (fun _ _ _ h => h) (Or.inl ⟨by kernel_rfl, ?_⟩) (by exact g5) ?_
      rotate_left
      · intro u hSu
        obtain ⟨s0, s1, s2, s3, s4⟩ := hSu
        go_simp
        try with_reducible rfl
      try simp only [Act.put, List.setIfInBounds_toArray, List.set_cons_zero, List.set_cons_succ]
      refine wpAnyL_take (i := 8) (v := ?_) [22] rfl (by kernel_rfl) (by kernel_rfl) (by kernel_rfl) (by kernel_rfl) (fun _ _ _ h => h) (Or.inl ⟨by kernel_rfl, ?_⟩) (by exact g5) ?_
      rotate_left
      · intro u hSu
        obtain ⟨s0, s1, s2, s3, s4⟩ := hSu
        go_simp
        try with_reducible rfl
      try simp only [Act.put, List.setIfInBounds_toArray, List.set_cons_zero, List.set_cons_succ]
      refine wpAnyL_take (i := 9) (v := ?_) [22] rfl (by kernel_rfl) (by kernel_rfl) (by kernel_rfl) (by kernel_rfl) (fun _ _ _ h => h) (Or.inl ⟨by kernel_rfl, ?_⟩) (by exact g5) ?_
      rotate_left
      · intro u hSu
        obtain ⟨s0, s1, s2, s3, s4⟩ := hSu
        go_simp
        try with_reducible rfl
      try simp only [Act.put, List.setIfInBounds_toArray, List.set_cons_zero, List.set_cons_succ]
      refine wpAnyL_take (i := 10) (v := ?_) [22] rfl (by kernel_rfl) (by kernel_rfl) (by kernel_rfl) (by kernel_rfl) (fun _ _ _ h => h) (Or.inl ⟨by kernel_rfl, ?_⟩) (by exact g5) ?_
      rotate_left
      · intro u hSu
        obtain ⟨s0, s1, s2, s3, s4⟩ := hSu
        go_simp
        try with_reducible rfl
      try simp only [Act.put, List.setIfInBounds_toArray, List.set_cons_zero, List.set_cons_succ]
      refine wpAnyL_take (i := 11) (v := ?_) [22] rfl (by kernel_rfl) (by kernel_rfl) (by kernel_rfl) (by kernel_rfl) (fun _ _ _ h => h) (Or.inl ⟨by kernel_rfl, ?_⟩) (by exact g5) ?_
      rotate_left
      · intro u hSu
        obtain ⟨s0, s1, s2, s3, s4⟩ := hSu
        go_simp
        try with_reducible rfl
      try simp only [Act.put, List.setIfInBounds_toArray, List.set_cons_zero, List.set_cons_succ]
      refine wpAnyL_take (i := 12) (v := ?_) [22] rfl (by kernel_rfl) (by kernel_rfl) (by kernel_rfl) (by kernel_rfl) (fun _ _ _ h => h) (Or.inl ⟨by kernel_rfl, ?_⟩) (by exact g5) ?_
      rotate_left
      · intro u hSu
        obtain ⟨s0, s1, s2, s3, s4⟩ := hSu
        go_simp
        try with_reducible rfl
      try simp only [Act.put, List.setIfInBounds_toArray, List.set_cons_zero, List.set_cons_succ]
      refine wpAnyL_take (i := 13) (v := ?_) [22] rfl (by kernel_rfl) (by kernel_rfl) (by kernel_rfl) (by kernel_rfl) (fun _ _ _ h => h) (Or.inl ⟨by kernel_rfl, ?_⟩) (by exact g5) ?_
      rotate_left
      · intro u hSu
        obtain ⟨s0, s1, s2, s3, s4⟩ := hSu
        go_simp
        try with_reducible rfl
      try simp only [Act.put, List.setIfInBounds_toArray, List.set_cons_zero, List.set_cons_succ]
      refine wpAnyL_take (i := 14) (v := ?_) [22] rfl (by kernel_rfl) (by kernel_rfl) (by kernel_rfl) (by kernel_rfl) (fun _ _ _ h => h) (Or.inl ⟨by kernel_rfl, ?_⟩) (by exact g5) ?_
      rotate_left
      · intro u hSu
        obtain ⟨s0, s1, s2, s3, s4⟩ := hSu
        go_simp
        try with_reducible rfl
      try simp only [Act.put, List.setIfInBounds_toArray, List.set_cons_zero, List.set_cons_succ]
      refine wpAnyL_take (i := 15) (v := ?_) [22] rfl (by kernel_rfl) (by kernel_rfl) (by kernel_rfl) (by kernel_rfl) (fun _ _ _ h => h) (Or.inl ⟨by kernel_rfl, ?_⟩) (by exact g5) ?_
      rotate_left
      · intro u hSu
        obtain ⟨s0, s1, s2, s3, s4⟩ := hSu
        go_simp
        try with_reducible rfl
      try simp only [Act.put, List.setIfInBounds_toArray, List.set_cons_zero, List.set_cons_succ]
      refine wpAnyL_take (i := 16) (v := ?_) [22] rfl (by kernel_rfl) (by kernel_rfl) (by kernel_rfl) (by kernel_rfl) (fun _ _ _ h => h) (Or.inl ⟨by kernel_rfl, ?_⟩) (by exact g5) ?_
      rotate_left
      · intro u hSu
        obtain ⟨s0, s1, s2, s3, s4⟩ := hSu
        go_simp
        try with_reducible rfl
      try simp only [Act.put, List.setIfInBounds_toArray, List.set_cons_zero, List.set_cons_succ]
      refine wpAnyL_take (i := 17) (v := ?_) [22] rfl (by kernel_rfl) (by kernel_rfl) (by kernel_rfl) (by kernel_rfl) (fun _ _ _ h => h) (Or.inl ⟨by kernel_rfl, ?_⟩) (by exact g5) ?_
      rotate_left
      · intro u hSu
        obtain ⟨s0, s1, s2, s3, s4⟩ := hSu
        go_simp
        try with_reducible rfl
      try simp only [Act.put, List.setIfInBounds_toArray, List.set_cons_zero, List.set_cons_succ]
      refine wpAnyL_one (i := 18) (by kernel_rfl) rfl (fun K hK => ?_)
      go_simp
      go_at_call 65
      (with_reducible refine Calls.mono (unhide HT16 _ _ (unhide VQ0)) ?_)
      rintro _ x1 ⟨rfl, hq1, ho1⟩
      generalize h1 : rdS (textC (numC v 1) 16).rd s = S1 at hq1
      generalize h2 : rdV ByteArray.empty (textC (numC v 1) 16).rd s = v1
      have HS1 := hide h1
      have HV1 := hide h2
      have VQ1 := hide hq1
      have VO1 := hide ((unhide VO0).trans (ho1.mono fun k _ hk => .inl hk))
      have VL1 := hide (own_only (unhide VL0) ho1 (fun j hj e => by have := ((unhide VL0).lt j hj).1; omega))
      have g5 : At5 x1 g c0 c1 c2 c3 c4 := ⟨own_cell (unhide VL1) (j := 0) rfl, own_cell (unhide VL1) (j := 1) rfl, own_cell (unhide VL1) (j := 2) rfl, own_cell (unhide VL1) (j := 3) rfl, own_cell (unhide VL1) (j := 4) rfl⟩
      have VM1 := hide ((unhide HM).only (unhide VO1) (fun e => by rcases e with e | e <;> omega))
      clear h1 h2 hq1 ho1
      refine hK.out _ _ (fun _ => g5) ?_
      clear hK K
      try simp only [Act.put, List.setIfInBounds_toArray, List.set_cons_zero, List.set_cons_succ]
      refine wpAnyL_one (i := 19) (by kernel_rfl) rfl (fun K hK => ?_)
      go_simp
      refine hK.out _ _ (fun _ => g5) ?_
      clear hK K
      try simp only [Act.put, List.setIfInBounds_toArray, List.set_cons_zero, List.set_cons_succ]
      refine wpAnyL_one (i := 20) (by kernel_rfl) rfl (fun K hK => ?_)
      go_simp
      refine hK.out _ _ (fun _ => g5) ?_
      clear hK K
      try simp only [Act.put, List.setIfInBounds_toArray, List.set_cons_zero, List.set_cons_succ]
      refine wpAnyL_one (i := 21) (by kernel_rfl) rfl (fun K hK => ?_)
      go_simp
      refine hK.out _ _ (fun _ => g5) ?_
      clear hK K
      try simp only [Act.put, List.setIfInBounds_toArray, List.set_cons_zero, List.set_cons_succ]
      refine wpAnyL_one (i := 22) (by kernel_rfl) rfl (fun K hK => ?_)
      refine if_wanted rfl (wp_store_mid 26 (.tmp 219) (.tmp 217) rfl mm 8 #[.int .i64 c0, .int .i64 c1, .int .i64 c2, .int .i64 c3, .int .i64 c4, .string v1] rfl rfl ((unhide VM1).there (by show 8 + 6 ≤ 14; omega)) (by kernel_rfl) (by simp [Value.oneCell']) ?_)
      refine hK.out _ _ (fun h => absurd rfl h) ?_
      clear hK K
      try simp only [Act.put, List.setIfInBounds_toArray, List.set_cons_zero, List.set_cons_succ]
      refine wpAnyL_done (by kernel_rfl) ?_ _
      have hoS := Only.setCells (S := fun k => k = mm) (g := mm) rfl [.int .i64 c0, .int .i64 c1, .int .i64 c2, .int .i64 c3, .int .i64 c4, .string v1] 8 x1
      have hmS : Blk (x1.setCells mm 8 [.int .i64 c0, .int .i64 c1, .int .i64 c2, .int .i64 c3, .int .i64 c4, .string v1]) mm 28 (mcells { m with cmd := ⟨c0, c1, c2, c3, c4, v1⟩ } A c vA vc) := (unhide VM1).setCells _ 8
      have hqS := (unhide VQ1).only hoS (fun k hk => by subst hk; exact ⟨hBm, hne⟩)
      have hOS := ((unhide VO1).mono (T := fun k => k = R ∨ k = mm ∨ w.heap.size ≤ k) fun j _ hj => by rcases hj with hj | hj <;> first | exact .inl hj | exact .inr (.inr hj)).trans (hoS.mono (T := fun k => k = R ∨ k = mm ∨ w.heap.size ≤ k) fun j _ hj => .inr (.inl hj))
      obtain ⟨x2, hx2⟩ : ∃ u, x1.setCells mm 8 [.int .i64 c0, .int .i64 c1, .int .i64 c2, .int .i64 c3, .int .i64 c4, .string v1] = u := ⟨_, rfl⟩
      rw [hx2] at hmS hqS hOS ⊢
      simp only [List.getElem_toArray, List.getElem_cons_succ, List.getElem_cons_zero]
      have f8 : x2.cell? ⟨mm, 8, none⟩ = some (.int .i64 c0) := hmS.cell 8
      have f9 : x2.cell? ⟨mm, 9, none⟩ = some (.int .i64 c1) := hmS.cell 9
      have f10 : x2.cell? ⟨mm, 10, none⟩ = some (.int .i64 c2) := hmS.cell 10
      have f11 : x2.cell? ⟨mm, 11, none⟩ = some (.int .i64 c3) := hmS.cell 11
      have f12 : x2.cell? ⟨mm, 12, none⟩ = some (.int .i64 c4) := hmS.cell 12
      have f13 : x2.cell? ⟨mm, 13, none⟩ = some (.string v1) := hmS.cell 13
      obtain ⟨r, hrq, heq⟩ := eql_cmd ⟨c0, c1, c2, c3, c4, v1⟩ Wire.cmd0
      have heq2 : ∀ u : World, (Op.equalIn 10000 26 (.agg #[.int .i64 c0, .int .i64 c1, .int .i64 c2, .int .i64 c3, .int .i64 c4, .string v1]) (.agg #[.int .i64 0, .int .i64 0, .int .i64 0, .int .i64 0, .int .i64 0, .string ⟨#[]⟩])).run Try.prog u = .ok r u := heq
      have hnz : nzC ⟨c0, c1, c2, c3, c4, v1⟩ = !r := by
        unfold nzC
        cases r with
        | true => simp [hrq.1 rfl]
        | false => simp; intro h; have := hrq.2 h; cases this
      have HNZ := hide hnz
      have hmS := hide hmS; have hqS := hide hqS; have hOS := hide hOS
      clear heq hrq hnz hx2 hoS g5
      go_wp2_with fail
      go_ret
      have hO : Only (fun k => k = R ∨ k = mm) w x2 := (unhide hOS).mono fun k hk hs => by rcases hs with hs | hs | hs <;> first | exact .inl hs | exact .inr hs | omega
      obtain ⟨hbad, hgood⟩ := cmd_end (unhide HROW) (unhide HS1) (unhide HV1)
      have hqE := unhide hqS
      rcases hS : S1 with er | q6
      · rw [hS] at hqE
        exact .inl ⟨er, _, _, (show partStep v 7 m b = _ by show mapE _ _ = _; rw [hbad er hS]; rfl), rfl, hqE, unhide hmS, rfl, hO⟩
      · rw [hS] at hqE
        exact .inr ⟨{ m with cmd := ⟨c0, c1, c2, c3, c4, v1⟩ }, nzC ⟨c0, c1, c2, c3, c4, v1⟩, q6, A, c, vA, vc, (show partStep v 7 m b = _ by show mapE _ _ = _; rw [hgood q6 hS]; rfl), by rw [unhide HNZ]; rfl, hqE, unhide hmS, ⟨own_only (unhide HW).vers hO (fun k hk e => by have := ((unhide HW).vers.lt k hk).1; rcases e with e | e <;> omega), own_only (unhide HW).vec hO (fun k hk e => by have := ((unhide HW).vec.lt k hk).1; rcases e with e | e <;> omega)⟩, hO, fun _ => ⟨rfl, rfl⟩, fun _ => ⟨rfl, rfl⟩⟩
end Go.Proofs.Ytkgacehnpdijaaa
