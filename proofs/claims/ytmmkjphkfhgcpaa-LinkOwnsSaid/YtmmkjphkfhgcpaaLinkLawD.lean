/- The walk of LinkOwns. -/
import Derived.Test.YtmmkjphkfhgcpaaLinkCalls
import Derived.Test.YtmmkjphkfhgcpaaLinkLawA
namespace Go.Proofs.Ytmmkjphkfhgcpaa
set_option linter.unusedVariables false
open Go.RowKit

theorem xor_255 (x : UInt8) : bits BinOp.xor IntKind.u8 (x.toNat : Int) 255 = ((x ^^^ 255).toNat : Int) := by
  have hx := x.toNat_lt
  have h := u8_xor_nat x.toNat 255 (by omega) (by omega)
  rw [UInt8.toNat_xor]
  exact h
theorem own_cellAt {w : World} {base : Nat} {e : TypeId} {g n c : Nat} {l : List UInt8} (h : w.ownsRow base e 1 (.slice (some ⟨g, 0, none⟩) n c) n (l.map Bv)) (k : Nat) (hk : k < n) (hl : l.length = n) :
    w.cell? ⟨g, k, none⟩ = some (.int .u8 ((l[k]'(by omega)).toNat : Int)) :=
  (h.cellAt k (by omega)).trans (by rw [List.getElem?_map, List.getElem?_eq_getElem (by omega)]; rfl)
theorem RdT.only {S : Nat → Prop} {w w' : World} {A : Option Addr} {l : List UInt8} (h : RdT w A l) (ho : Only S w w') (hs : ∀ ad, A = some ad → 0 < l.length → ¬ S ad.block) : RdT w' A l := fun hp => by
  obtain ⟨ad, cs, fz, e, hb, hc⟩ := h hp
  have hb' := (ho.block ad.block (Array.getElem?_eq_some_iff.1 hb).1 (hs ad e hp)).trans hb
  exact ⟨ad, cs, fz, e, hb', fun j b hj => (World.cell?_of_block (a := ad.add j) (by rw [block_of_add, hb', hb])).trans (hc j b hj)⟩
/-- an end stands where others' blocks are written, bytes too -/
theorem EndAt.far {S : Nat → Prop} {w w' : World} {p : Nat} {s : LS} (h : EndAt w p s) (ho : Only S w w') (hs : ∀ k, Foot p s k → ¬ S k) (h1 : ∀ x ∈ s.r, ∀ ad, x.2.1 = some ad → 0 < x.1.length → ¬ S ad.block) (h2 : ∀ c x, s.M c = some x → ∀ ad, x.2.1 = some ad → 0 < x.1.length → ¬ S ad.block) : EndAt w' p s :=
  ⟨h.blk.only ho (hs _ (.inl rfl)), h.que.only ho fun k hk => hs k (.inr (.inr hk)), fun x hx => ⟨(h.lie x hx).1.only ho (h1 x hx), (h.lie x hx).2⟩, Kp.only h.kp ho (hs _ (.inr (.inl rfl))), fun a x hx => ⟨(h.kept a x hx).1.only ho (h2 a x hx), (h.kept a x hx).2⟩⟩

theorem own_types {w : World} {b1 b2 e1 e2 s1 s2 n1 n2 g c1 : Nat} {v : Value} {xs ys : List Value} (h1 : w.ownsRow b1 e1 s1 (.slice (some ⟨g, 0, none⟩) n1 c1) n1 xs) (h2 : w.ownsRow b2 e2 s2 v n2 ys) (hv : v.ownBlock = some g) (hne : e1 ≠ e2) : False := by
  rcases h1.2 with ⟨h, _⟩ | ⟨g1, cap1, cur1, e, _, hg1, _⟩
  · cases h
  · injection e with e _ _
    injection e with e
    injection e with e _ _
    subst e
    rcases h2.2 with ⟨rfl, _⟩ | ⟨g2, cap2, cur2, rfl, _, hg2, _⟩
    · cases hv
    · have hv : some g2 = some g := hv
      injection hv with hv
      subst hv
      rw [hg1] at hg2
      injection hg2 with hg2
      injection hg2 with _ hg2 _
      exact hne hg2
theorem inSays_two {s s' : LS} {ep er : Int} {b : List UInt8} {q : Bodies} (h1 : s.ep = ep) (h2 : s.r = []) (h3 : s.sent = 0) (h4 : s.got = 0) (h5 : s.M = fun _ => none) (h : InSays s ep 2 0 b s' q er) :
    s'.ep = ep ∧ s'.r = [] ∧ s'.sent = 0 ∧ s'.got = 0 ∧ s'.m = s.m ∧ ∃ x : Body, x.1 = b ∧ s'.M = upd (fun _ => none) 2 (some x) := by
  rcases h with ⟨h, _⟩ | ⟨_, h, _⟩ | ⟨_, _, _, _, g1, g2, g3, g4, hc⟩
  · exact absurd h1.symm h
  · rw [h2] at h; simp at h; omega
  · rcases hc with ⟨h, _⟩ | ⟨h, _⟩ | ⟨_, _, _, g5, M1, hM1, g6, hq, hn⟩
    · omega
    · omega
    · obtain ⟨x, hx, rfl⟩ : ∃ x : Body, x.1 = b ∧ M1 = upd s.M 2 (some x) := by
        rcases hM1 with ⟨h, _⟩ | ⟨_, x, hx, h⟩
        · rw [h5] at h; cases h
        · exact ⟨x, hx, h⟩
      have hq0 : q.length = 0 := by
        rcases Nat.eq_zero_or_pos q.length with h0 | h0
        · exact h0
        · have := hq 0 _ (List.getElem?_eq_getElem h0)
          rw [upd_other s.M _ (by omega), h5] at this
          cases this
      refine ⟨by rw [g1, h1], by rw [g3, h2]; simp, by omega, by omega, g4, x, hx, ?_⟩
      rw [g6, h5]
      funext c
      rw [hq0]
      rw [if_neg (by omega)]
theorem inSays_one {s s' : LS} {ep er : Int} {b : List UInt8} {q : Bodies} {x : Body} (h1 : s.ep = ep) (h2 : s.r = []) (h3 : s.sent = 0) (h4 : s.got = 0) (h5 : s.M = upd (fun _ => none) 2 (some x)) (h : InSays s ep 1 0 b s' q er) :
    er = 0 ∧ ∃ y : Body, y.1 = b ∧ q = [y, x] := by
  rcases h with ⟨h, _⟩ | ⟨_, h, _⟩ | ⟨_, _, _, _, g1, g2, g3, g4, hc⟩
  · exact absurd h1.symm h
  · rw [h2] at h; simp at h; omega
  · rcases hc with ⟨h, _⟩ | ⟨h, _⟩ | ⟨_, _, g0, g5, M1, hM1, g6, hq, hn⟩
    · omega
    · omega
    · obtain ⟨y, hy, rfl⟩ : ∃ y : Body, y.1 = b ∧ M1 = upd s.M 1 (some y) := by
        rcases hM1 with ⟨h, _⟩ | ⟨_, x, hx, h⟩
        · rw [h5] at h; simp [upd] at h
        · exact ⟨x, hx, h⟩
      refine ⟨g0, y, hy, ?_⟩
      rw [h4, h5] at hn
      match q, hq, hn with
      | [], hq, hn => simp [upd] at hn
      | [u], hq, hn => simp [upd] at hn
      | u :: v :: r, hq, hn =>
        have a := hq 0 u rfl
        have b := hq 1 v rfl
        rw [h4, h5] at a b
        simp [upd] at a b
        match r, hq with
        | [], _ => rw [a, b]
        | z :: r, hq =>
          have c := hq 2 z rfl
          rw [h4, h5] at c
          simp [upd] at c

set_option maxHeartbeats 8000000 in
set_option maxRecDepth 20000 in
theorem linkOwns_any (ep : Int) (t : List UInt8) (A : Option Addr) (c : Nat) (w : World) (hr : RdB w w.heap.size A t) (hc : t.length ≤ c) (hc2 : c ≤ 140737488351232) :
    Calls Try.prog 3 #[.int .i64 ep, .slice A t.length c] w fun e w' => e = .returned (.bool true) ∧ Below w.heap.size w w' := by
  obtain ⟨i0, hi, hz0, hz1, hz2⟩ := info_parts u8info
  have HN := hide (fun u : World => new_e ep u)
  have HA := hide awake_any
  have HR := hide hr
  clear hr
  by_cases hlong : 2000 < t.length
  · go_enter Try.func3, Try.ntmps3
    go_wp2_with (first
      | (go_at_call 10; refine (unhide HN w).mono ?_; rintro _ w1 ⟨pa, rfl, _, _, hbel1⟩; have HB1 := hide hbel1; clear hbel1)
      | (go_at_call 10; refine (unhide HN w1).mono ?_; rintro _ w2 ⟨pb, rfl, _, _, hbel2⟩; have HB2 := hide ((unhide HB1).trans (hbel2.mono (unhide HB1).size)); clear hbel2))
    go_ret
    exact ⟨rfl, unhide HB2⟩
  · go_enter Try.func3, Try.ntmps3
    go_upto_region 4 with (first
      | (go_at_call 10; with_reducible refine (unhide HN w).mono ?_; rintro _ w1 ⟨pa, rfl, ha1, hma1, hbel1⟩; have HEA1 := hide ha1; have HMA1 := hide hma1; have HB1 := hide hbel1; clear ha1 hma1 hbel1)
      | (go_at_call 10; with_reducible refine (unhide HN w1).mono ?_; rintro _ w2 ⟨pb, rfl, hb2, hmb2, hbel2⟩; have HEB2 := hide hb2; have HMB2 := hide hmb2; have HEA2 := hide ((unhide HEA1).new hbel2); have HB2 := hide ((unhide HB1).trans (hbel2.mono (unhide HB1).size)); clear hb2 hmb2 hbel2))
    obtain ⟨sA, hsA⟩ : ∃ s, newS ep w.heap.size = s := ⟨_, rfl⟩
    obtain ⟨sB, hsB⟩ : ∃ s, newS ep w1.heap.size = s := ⟨_, rfl⟩
    have HMA2 : Hid (∀ k, Foot pa sA k → w.heap.size ≤ k ∧ k < w1.heap.size) := hide (by subst hsA; exact fun k hk => ⟨unhide HMA1 k hk, (unhide HEA1).foot k hk⟩)
    rw [hsA] at HEA2
    rw [hsB] at HEB2 HMB2
    have a1 : sA.ep = ep ∧ sA.r = [] ∧ sA.sent = 0 ∧ sA.got = 0 ∧ sA.n = 0 ∧ sA.M = fun _ => none := by subst hsA; exact ⟨rfl, rfl, rfl, rfl, rfl, rfl⟩
    have b1 : sB.ep = ep ∧ sB.r = [] ∧ sB.sent = 0 ∧ sB.got = 0 ∧ sB.n = 0 ∧ sB.M = fun _ => none := by subst hsB; exact ⟨rfl, rfl, rfl, rfl, rfl, rfl⟩
    have HSA := hide a1
    have HSB := hide b1
    clear hsA hsB HMA1 HEA1 HN a1 b1
    have hsz := (unhide HB2).size
    have hs01 := (unhide HB1).size
    have hsz1 : w1.heap.size ≤ w2.heap.size := by
      have := (unhide HEB2).foot pb (.inl rfl)
      have h2 := unhide HMB2 pb (.inl rfl)
      omega
    have HOn : Hid ((w2.alloc (.cells #[] 5)).ownsRow w2.heap.size 5 1 (.slice (some ⟨w2.heap.size, 0, none⟩) 0 0) 0 []) := hide (own_new w2 w2.heap.size #[] 5 0 [] (by omega) (by simp [maxLen]) rfl rfl)
    have HR2 := hide (((unhide HR).below (unhide HB2)).alloc hsz (.cells #[] 5))
    have HSE := hide (fun (u : World) (h : EndAt u pa sA) (B : Option Addr) (d : Nat) (h2 : RdB u u.heap.size B t) => send_end pa sA t B d u.heap.size u h (by rw [(unhide HSA).2.1]; simp) (by omega) h2 (Nat.le_refl _))
    go_upto_region 7 with (first
      | (at_builtin
         refine wpList_append_any _ rfl (.tmp 36) (.tmp 37) _ rfl w2.heap.size 5 i0 _ 1 1 Try.underlying22 hi hz0 hz1 hz2 rfl (by omega) _ 0 [] rfl
           (unhide HOn) _ A t.length c _ rfl (unhide HR2).v (by simp) oneCell_Bv (by simp only [maxLen]; omega) (by omega) (by simp) ?_
         intro A4 c4 w4 hown4 hg4 hat4 hbel4 hcc4
         rw [Nat.zero_add, List.nil_append] at hown4; rw [Nat.zero_add] at hcc4 ⊢
         have HO4 := hide hown4; have HB24 : Hid (Below w2.heap.size w2 w4) := hide (((Below.refl _ w2).alloc (Nat.le_refl _) (.cells #[] 5)).trans hbel4); clear hown4 hg4 hat4 hbel4)
      | (go_at_call 11; with_reducible refine (unhide HSE w4 ((unhide HEA2).new (unhide HB24)) A4 c4 (RdB.of_own (unhide HO4))).mono ?_; rintro _ w5 ⟨rfl, wv, x, hx, hxn, hst5⟩
         have HX := hide hx; have HXN := hide hxn; have HST5 := hide hst5; clear hx hxn hst5))
    have hs24 := (unhide HB24).size
    have HEB5 := hide ((unhide HST5).other ((unhide HEB2).new (unhide HB24)) (fun k hk hk' => by have := unhide HMB2 k hk; have := (unhide HMA2 k hk').2; omega))
    have HB5 := hide (((unhide HB2).trans ((unhide HB24).mono hsz)).trans ((unhide HST5).only.below (by omega) (fun k hk => (unhide HMA2 k hk).1)))
    have HO5 := hide (own_only (unhide HO4) (unhide HST5).only (fun k hk h => by have := ((unhide HO4).lt k hk).1; have := (unhide HMA2 k h).2; omega))
    have hs45 := (unhide HST5).only.size
    have HFB : Hid (∀ k, Foot pb sB k → w1.heap.size ≤ k ∧ k < w2.heap.size) := hide fun k hk => ⟨unhide HMB2 k hk, (unhide HEB2).foot k hk⟩
    clear HEA2 HEB2 HMB2 HSE HOn HR2 HB2
    go_wp2_with fail
    go_loopw [45] (fun i wr => ∃ (k : Nat) (l : List UInt8), k ≤ t.length ∧ i = .int .i64 k ∧ l.length = t.length ∧ wr.ownsRow w2.heap.size 5 1 (.slice A4 t.length c4) t.length (l.map Bv) ∧ Only (fun j => (Value.slice A4 t.length c4).ownBlock = some j) w5 wr) (fun i _ => t.length - (intOf i).toNat)
    case atStart => exact ⟨0, t, Nat.zero_le _, rfl, rfl, unhide HO5, Only.refl _ _⟩
    case round =>
      obtain ⟨k, l, hk, rfl, hl, hrow, hon⟩ := hrel
      by_cases hlt : k < t.length
      · obtain ⟨g, cap, hv, _, _⟩ := hrow.form (by omega)
        obtain rfl : A4 = some ⟨g, 0, none⟩ := by injection hv
        have hcell := own_cellAt hrow k hlt hl
        have hfz := hrow.frozenAt k
        have HRow := hide hrow; have HON := hide hon
        have HXO := hide (xor_255 (l[k]'(by omega)))
        clear hrow hon
        go_wp2_with fail
        go_roundw
        case rel => exact ⟨k + 1, l.set k (l[k]'(by omega) ^^^ 255), by omega, by go_num, by rw [List.length_set]; exact hl, by
            have := ((unhide HRow).stored k (Bv (l[k]'(by omega) ^^^ 255))).1
            rw [← List.map_set] at this
            rw [unhide HXO]
            exact this, (unhide HON).setCell (p := ⟨g, k, none⟩) rfl _⟩
        case measure => simp [intOf]; omega
      · obtain rfl : k = t.length := by omega
        obtain ⟨w6, rfl⟩ : ∃ u : World, u = wr := ⟨wr, rfl⟩
        have hml : ∀ j, (Value.slice A4 t.length c4).ownBlock = some j → w2.heap.size ≤ j ∧ j < w4.heap.size := fun j hj => (unhide HO4).lt j hj
        have HEA6 := hide ((unhide HST5).at_.far hon (fun k hk h => by
          rcases (unhide HST5).foot k hk with h1 | h1
          · have := (unhide HMA2 k h1).2; have := hml k h; omega
          · have := hml k h; omega) (fun y hy ad e _ h => by
          have h0 : y ∈ sA.r ++ [x] := hy
          rw [(unhide HSA).2.1] at h0
          obtain rfl := List.mem_singleton.1 h0
          have := unhide HXN ad e; have := hml _ h; omega) (fun a y hy => by
          have h0 : sA.M a = some y := hy
          rw [(unhide HSA).2.2.2.2.2] at h0
          cases h0))
        have HEB6 := hide ((unhide HEB5).1.far hon (fun k hk h => by have := unhide HFB k hk; have := hml k h; omega) (fun y hy => by rw [(unhide HSB).2.1] at hy; cases hy) (fun a y hy => by rw [(unhide HSB).2.2.2.2.2] at hy; cases hy))
        have HB6 := hide ((unhide HB5).trans (hon.below (B := w.heap.size) (by omega) (fun j hj => by have := hml j hj; omega)))
        have hs56 := hon.size
        clear hrow hon
        have HML := hide hml
        clear hml
        have hr0 : sA.r ++ [x] = [x] := by rw [(unhide HSA).2.1]; rfl
        have HOUT := hide (out_end pa _ w6 (unhide HEA6) (by show (sA.r ++ [x]).length ≤ 4096; rw [hr0]; simp) (by show 0 ≤ sA.sent; rw [(unhide HSA).2.2.1]; omega) (by show sA.sent ≤ _; rw [(unhide HSA).2.2.1]; omega))
        go_upto_region 13 with (go_at_call 12; refine (unhide HOUT).mono ?_; rintro _ w7 ⟨k1, Ao, co, q, rfl, hk1, hql, hqm, hrow, hlq, hbel7, hst7, hnb, hob⟩)
        simp only [hr0, List.length_cons, List.length_nil] at hk1
        obtain rfl : k1 = 1 := by omega
        obtain ⟨y, rfl⟩ : ∃ y, q = [y] := List.length_eq_one_iff.1 hql
        have hyt : y.1 = t := by
          simp only [hr0] at hqm
          simpa [unhide HX] using hqm
        obtain ⟨yl, YA, yc⟩ := y
        simp only at hyt
        subst hyt
        obtain ⟨g7, cap7, hv, hbg, hlt7⟩ := hrow.form (by omega)
        obtain rfl : Ao = some ⟨g7, 0, none⟩ := by injection hv
        have e0 : w7.cell? ⟨g7, 0, none⟩ = some (.int .i64 0) := hrow.cellAt 0 (by omega)
        have e1 : w7.cell? ⟨g7, 1, none⟩ = some (.int .i64 ep) := (hrow.cellAt 1 (by omega)).trans (by simp [outCells, (unhide HSA).1])
        have e2 : w7.cell? ⟨g7, 2, none⟩ = some (.int .i64 1) := (hrow.cellAt 2 (by omega)).trans (by simp [outCells, (unhide HSA).2.2.1])
        have e3 : w7.cell? ⟨g7, 3, none⟩ = some (.int .i64 0) := (hrow.cellAt 3 (by omega)).trans (by simp [outCells, (unhide HSA).2.2.2.1])
        have e4 : w7.cell? ⟨g7, 4, none⟩ = some (.slice YA yl.length yc) := (hrow.cellAt 4 (by omega)).trans (by simp [outCells])
        have HEA7 := hide ((unhide HEA6).new hbel7)
        have HEB7 := hide ((unhide HEB6).new hbel7)
        have HB7 := hide ((unhide HB6).trans (hbel7.mono (unhide HB6).size))
        have HY7 := hide (hob _ (List.mem_singleton.2 rfl))
        have HROW7 := hide hrow
        have hs67 := hbel7.size
        have HR0 := hide hr0
        clear hrow hlq hbel7 hst7 hnb hob hql hqm hv hk1 hr0 HOUT HEA6 HEB6 HB6
        have HSM := hide (same_any yl yl YA A yc c _ _ w7 (RdB.of_own (unhide HY7)) ((unhide HR).below (unhide HB7)))
        have HM8 := hide ((Mem.start w7).new (t := 31) (cs := #[.int .i64 0, .int .i64 0, .int .i64 0, .int .i64 0, .slice none 0 0]) w7.heap.size rfl)
        go_upto_region 16 with (first
          | (go_at_call 13; refine (unhide HSM).mono ?_; rintro _ w8 ⟨rfl, rfl⟩; rw [beq_self_eq_true])
          | (refine wpList_store_blk rfl 31 (.tmp 10) (.tmp 71) rfl (w7.heap.size) _ (by rfl) (by rfl) 31 _ (unhide HM8).blk0 (by kernel_rfl) (by rfl) (by simp [Value.oneCell']) ?_; intro w9 hbS hgS; have HM9 := hide ((unhide HM8).grown0 hbS hgS); have HGw9 := hide hgS; clear hbS hgS))
        have hs79 := (unhide HM9).size
        have hg10 : w7.heap.size < w9.heap.size := (unhide HM9).blk0.lt
        have HY9 := hide ((own_below (unhide HY7) (unhide HM9).below (fun k hk => ((unhide HY7).lt k hk).2)).alloc (.cells #[] 5))
        have HM9a := hide ((unhide HM9).other (.cells #[] 5))
        have fcF := Lnk.cellsAt (unhide HM9a).blk0
        have HOn9 : Hid ((w9.alloc (.cells #[] 5)).ownsRow w9.heap.size 5 1 (.slice (some ⟨w9.heap.size, 0, none⟩) 0 0) 0 []) := hide (own_new w9 w9.heap.size #[] 5 0 [] (by omega) (by simp [maxLen]) rfl rfl)
        have hycap := own_cap (unhide HY7)
        have HNY := hide (fun k hk => (unhide HY7).lt k hk)
        have HE4 := hide e4
        have HNYG := hide (fun (hk : (Value.slice YA yl.length yc).ownBlock = some g7) => own_types (unhide HROW7) (unhide HY7) hk (by decide))
        clear e0 e1 e2 e3 e4 HSM HM8 HGw9
        go_upto_region 17 with (first
          | (at_builtin
             refine wpList_append_any _ rfl (.tmp 72) (.tmp 74) _ rfl w9.heap.size 5 i0 _ 1 1 Try.underlying22 hi hz0 hz1 hz2 rfl (by omega) _ 0 [] rfl
               (unhide HOn9) _ YA yl.length yc _ rfl (RdB.of_own (unhide HY9)).v (by simp) oneCell_Bv (by simp only [maxLen]; omega) (by omega) (by simp) ?_
             intro A10 c10 w10 hown10 hg10' hat10 hbel10 hcc10
             rw [Nat.zero_add, List.nil_append] at hown10; rw [Nat.zero_add] at hcc10 ⊢
             have HM10 := hide ((unhide HM9a).low hbel10 (by intro q hq; obtain rfl := List.mem_singleton.1 hq; exact hg10) (by omega))
             have fz10 := (unhide HM10).blk0.frozen 4; have fc10 := Lnk.cellsAt (unhide HM10).blk0
             have HO10 := hide hown10; have HB10 : Hid (Below w9.heap.size w9 w10) := hide (((Below.refl _ w9).alloc (Nat.le_refl _) (.cells #[] 5)).trans hbel10); clear hown10 hg10' hat10 hbel10))
        have hs910 := (unhide HB10).size
        have hne10 : ∀ k, (Value.slice A10 yl.length c10).ownBlock = some k → w9.heap.size ≤ k ∧ k < w10.heap.size := fun k hk => (unhide HO10).lt k hk
        have HNE10 := hide hne10
        clear hne10
        have HM11 := hide (((unhide HM10).set0 (i := 4) (v := .slice A10 yl.length c10)).as0 (cs' := #[.int .i64 0, .int .i64 ep, .int .i64 1, .int .i64 0, .slice A10 yl.length c10]) rfl)
        have HO11 := hide (ownsRow_setCell_other (a := ⟨w7.heap.size, 4, none⟩) (unhide HO10) (fun h => by have h2 := (unhide HNE10 _ h).1; simp only at h2; omega) (.slice A10 yl.length c10))
        have HM12 := hide ((unhide HM11).new (t := 31) (cs := #[.int .i64 0, .int .i64 0, .int .i64 0, .int .i64 0, .slice none 0 0]) w10.heap.size (by simp))
        go_upto_region 18 with (first
          | (refine wpList_load_blk rfl 31 (.tmp 10) rfl (w7.heap.size) rfl 31 _ _ ((unhide HM11).blk0) Try.underlying31 rfl (by kernel_rfl) ?_)
          | (refine wpList_store_blk rfl 31 (.tmp 11) (.tmp 77) rfl (w10.heap.size) _ (by rfl) (by rfl) 31 _ (unhide HM12).blk0 (by kernel_rfl) (by rfl) (by simp [Value.oneCell']) ?_; intro w13 hbS hgS; have HM13 := hide ((unhide HM12).grown0 hbS hgS); have HGw13 := hide hgS; clear hbS hgS))
        have HM14 := hide (((unhide HM13).set0 (i := 2) (v := .int .i64 2)).as0 (cs' := #[.int .i64 0, .int .i64 ep, .int .i64 2, .int .i64 0, .slice A10 yl.length c10]) rfl)
        have HO14 := hide (own_only (S := fun k => k = w10.heap.size) (unhide HO11) (Only.setCell (S := fun k => k = w10.heap.size) (p := ⟨w10.heap.size, 2, none⟩) ((Only.alloc (Only.refl (fun k => k = w10.heap.size) _) (.cells #[.int .i64 0, .int .i64 0, .int .i64 0, .int .i64 0, .slice none 0 0] 31)).trans (Only.of_grown (unhide HGw13) (fun k hk => by injection hk with hk; exact hk.symm))) rfl (.int .i64 2)) (fun k hk e => by have := (unhide HNE10 k hk).2; omega))
        have ffT := (unhide HM13).blk0.frozen 2
        have fcT := Lnk.cellsAt (unhide HM13).blk0
        have hs14 := (unhide HM14).size
        have hs13 := (unhide HM13).blk0.lt
        have HEA14 := hide ((unhide HEA7).new (unhide HM14).below)
        have HIN := hide (in_end pb sB 1 0 ep 2 0 A10 yl c10 _ ((unhide HEB7).new (unhide HM14).below) ⟨by have := (unhide HSB).2.2.1; omega, by have := (unhide HSB).2.2.2.1; omega, by have := (unhide HSB).2.2.1; have := (unhide HSB).2.1; rw [this]; simp; omega, by have := (unhide HSB).2.2.2.1; omega, by have := (unhide HSB).2.2.2.2.1; omega, by have := (unhide HSB).2.1; rw [this]; simp, fun a h => by rw [(unhide HSB).2.2.2.2.2] at h; cases h⟩ (by omega)
          (fun u hu => (RdB.of_own (unhide HO14)).only hu (Nat.le_refl _) (fun ad e h => by
            subst e
            have h1 := (unhide HNE10 ad.block rfl).1
            have h2 := (unhide HFB pb (.inl rfl)).2
            omega)) (by omega) (by omega) (by omega))
        clear HOn9 HY9 HM9a HM12 HEA7 HEB7 HM9 HM10 HO10 HB10
        go_upto_region 20 with (first
          | (refine wpList_load_blk rfl 31 (.tmp 11) rfl (w10.heap.size) rfl 31 _ _ ((unhide HM14).blk0) Try.underlying31 rfl (by kernel_rfl) ?_)
          | (go_at_call 14; refine (unhide HIN).mono ?_; rintro _ w15 ⟨sC, q15, A15, c15, er15, rfl, hrow15, hok15, hst15, hinv15, hnew15, hin15⟩))
        obtain ⟨c1, c2, c3, c4, c5, x2, hx2, c6⟩ := inSays_two (unhide HSB).1 (unhide HSB).2.1 (unhide HSB).2.2.1 (unhide HSB).2.2.2.1 (unhide HSB).2.2.2.2.2 hin15
        have hx2n : ∀ ad, x2.2.1 = some ad → w10.heap.size < ad.block := fun ad e => by
          rcases hnew15 x2 (.inl ⟨2, by rw [c6]; simp [upd]⟩) with ⟨cc, h⟩ | h
          · rw [(unhide HSB).2.2.2.2.2] at h; cases h
          · have := h ad e; simp at this; omega
        have HX2 := hide hx2; have HX2N := hide hx2n
        have HSC := hide (show sC.ep = ep ∧ sC.r = [] ∧ sC.sent = 0 ∧ sC.got = 0 ∧ sC.M = upd (fun _ => none) 2 (some x2) from ⟨c1, c2, c3, c4, c6⟩)
        have HEC15 := hide hst15.at_
        have HINV15 := hide hinv15
        have hFC : ∀ k, Foot pb sC k → (w1.heap.size ≤ k ∧ k < w2.heap.size) ∨ w13.heap.size ≤ k := fun k hk => by
          rcases hst15.foot k hk with h | h
          · exact .inl (unhide HFB k h)
          · right; simpa using h
        have HFC := hide hFC
        have HEA15 := hide ((unhide HEA14).only hst15.only hst15.by_ (fun k hk h => by
          have h2 := unhide HFB k h
          rcases (unhide HST5).foot k hk with h1 | h1
          · have := (unhide HMA2 k h1).2; omega
          · omega))
        have HT15 := hide ((unhide HM14).blk1.only hst15.only (fun h => by have := unhide HFB _ h; omega))
        have HA15 := hide (own_only (unhide HO14) hst15.only (fun k hk h => by have h1 := (unhide HNE10 k hk).1; have := unhide HFB _ h; omega))
        have HY15 := hide (own_only (own_below (unhide HY7) (unhide HM14).below (fun k hk => (unhide HNY k hk).2)) hst15.only (fun k hk h => by have h1 := (unhide HNY k hk).1; have := unhide HFB _ h; omega))
        have h714 := unhide HM14
        have hg7b : (w13.setCell ⟨w10.heap.size, 2, none⟩ (.int .i64 2)).cell? ⟨g7, 4, none⟩ = some (.slice YA yl.length yc) := (h714.below.cell (p := ⟨g7, 4, none⟩) hlt7).trans (unhide HE4)
        have hg7c : w15.cell? ⟨g7, 4, none⟩ = some (.slice YA yl.length yc) := (hst15.only.cell (a := ⟨g7, 4, none⟩) (by simp at hs14 ⊢; omega) (fun h => by have h2 := unhide HFB _ h; simp at h2; omega)).trans hg7b
        have HG7 := hide hg7c
        have HB15 := hide (((unhide HB7).trans (h714.below.mono (unhide HB7).size)).trans (hst15.only.below (by have := (unhide HB7).size; omega) (fun k hk => by have := unhide HFB k hk; omega)))
        have hs15 := hst15.only.size
        simp at hs15 hs14
        clear hin15 hnew15 hx2 hx2n c1 c2 c3 c4 c5 c6 hst15 hinv15 hFC h714 hg7b hg7c hrow15 hok15 fcT ffT HIN HEA14 HM13 HGw13 HO14 HO11 HM11 HY7
        have HNA := hide (fun k hk => unhide HNE10 k hk)
        have fT15 := Lnk.cellsAt (unhide HT15)
        go_wp2_with fail
        clear fT15
        go_loopw [85] (fun i wr2 => ∃ (k : Nat) (l1 l2 : List UInt8), k ≤ yl.length ∧ i = .int .i64 k ∧ l1.length = yl.length ∧ l2.length = yl.length ∧ wr2.ownsRow w9.heap.size 5 1 (.slice A10 yl.length c10) yl.length (l1.map Bv) ∧ wr2.ownsRow w6.heap.size 5 1 (.slice YA yl.length yc) yl.length (l2.map Bv) ∧
            Only (fun j => (Value.slice A10 yl.length c10).ownBlock = some j ∨ (Value.slice YA yl.length yc).ownBlock = some j) w15 wr2) (fun i _ => yl.length - (intOf i).toNat)
        case atStart => exact ⟨0, yl, yl, Nat.zero_le _, rfl, rfl, rfl, unhide HA15, unhide HY15, Only.refl _ _⟩
        case round =>
          obtain ⟨k, l1, l2, hk, rfl, hl1, hl2, hra, hry, hon⟩ := hrel
          by_cases hlt : k < yl.length
          · obtain ⟨ga, capa, hva, _, _⟩ := hra.form (by omega)
            obtain rfl : A10 = some ⟨ga, 0, none⟩ := by injection hva
            obtain ⟨gy, capy, hvy, _, _⟩ := hry.form (by omega)
            obtain rfl : YA = some ⟨gy, 0, none⟩ := by injection hvy
            have hga := unhide HNA ga rfl
            have hgy := unhide HNY gy rfl
            have hne : ga ≠ gy := by omega
            have ca := own_cellAt hra k hlt hl1
            have fa := hra.frozenAt k
            have cy := own_cellAt hry k hlt hl2
            have fy := hry.frozenAt k
            have hno : ∀ j, j < w6.heap.size ∨ (w7.heap.size ≤ j ∧ j < w9.heap.size) → ¬ ((Value.slice (some ⟨ga, 0, none⟩) yl.length c10).ownBlock = some j ∨ (Value.slice (some ⟨gy, 0, none⟩) yl.length yc).ownBlock = some j) := by
              rintro j hj (h | h)
              · have h : some ga = some j := h
                injection h with h; omega
              · have h : some gy = some j := h
                injection h with h; omega
            have fT := Lnk.cellsAt ((unhide HT15).only hon (hno _ (.inr ⟨Nat.le_refl _, hg10⟩)))
            have c7 : wr.cell? ⟨g7, 4, none⟩ = some (.slice (some ⟨gy, 0, none⟩) yl.length yc) := (hon.cell (a := ⟨g7, 4, none⟩) (by simp; omega) (fun h => by
              rcases h with h | h
              · have h : some ga = some g7 := h
                injection h with h; omega
              · exact unhide HNYG h)).trans (unhide HG7)
            have HRA := hide hra; have HRY := hide hry; have HON := hide hon
            have HXA := hide (xor_255 (l1[k]'(by omega)))
            have HXY := hide (xor_255 (l2[k]'(by omega)))
            have hga7 : ga ≠ g7 := by omega
            clear hra hry hon hno
            go_wp2_with fail
            refine ⟨⟨k + 1, l1.set k (l1[k]'(by omega) ^^^ 255), l2.set k (l2[k]'(by omega) ^^^ 255), by omega, by go_num, by rw [List.length_set]; exact hl1, by rw [List.length_set]; exact hl2, ?_, ?_, ?_⟩, by simp [intOf]; omega⟩
            · have h := ((unhide HRA).stored k (Bv (l1[k]'(by omega) ^^^ 255))).1
              rw [← List.map_set] at h
              rw [unhide HXA]
              exact ownsRow_setCell_other h (fun e => by
                have e : some ga = some gy := e
                injection e with e; exact hne e) _
            · rw [unhide HXY]
              have h := (ownsRow_setCell_other (a := ⟨ga, k, none⟩) (unhide HRY) (fun e => by
                have e : some gy = some ga := e
                injection e with e; exact hne e.symm) (.int .u8 (bits BinOp.xor IntKind.u8 ((l1[k]'(by omega)).toNat : Int) 255)))
              have h := (h.stored k (Bv (l2[k]'(by omega) ^^^ 255))).1
              rw [← List.map_set] at h
              exact h
            · exact ((unhide HON).setCell (p := ⟨ga, k, none⟩) (.inl rfl) _).setCell (p := ⟨gy, k, none⟩) (.inr rfl) _
          · obtain rfl : k = yl.length := by omega
            have hS : ∀ j, ((Value.slice A10 yl.length c10).ownBlock = some j ∨ (Value.slice YA yl.length yc).ownBlock = some j) → (w9.heap.size ≤ j ∧ j < w10.heap.size) ∨ (w6.heap.size ≤ j ∧ j < w7.heap.size) := fun j h => h.elim (fun h => .inl (unhide HNA j h)) (fun h => .inr (unhide HNY j h))
            have HEA16 := hide ((unhide HEA15).far hon (fun j hj h => by
              have h1 := hS j h
              rcases (unhide HST5).foot j hj with h2 | h2
              · have := (unhide HMA2 j h2).2; omega
              · have := (unhide HST5).at_.foot j hj; omega) (fun y hy ad e h0 h => by
              obtain ⟨ad2, _, _, e2, h3, _⟩ := ((unhide HST5).at_.lie y hy).1 h0
              rw [e] at e2
              injection e2 with e2
              subst e2
              have h4 := (Array.getElem?_eq_some_iff.1 h3).1
              have h1 := hS _ h; omega) (fun a y hy => by
              have h0 : sA.M a = some y := hy
              rw [(unhide HSA).2.2.2.2.2] at h0
              cases h0))
            have HEC16 := hide ((unhide HEC15).far hon (fun j hj h => by have h1 := hS j h; have := unhide HFC j hj; omega) (fun y hy => by rw [(unhide HSC).2.1] at hy; cases hy) (fun a y hy ad e _ h => by
              have h1 := hS _ h
              rw [(unhide HSC).2.2.2.2] at hy
              have hyx : y = x2 := by
                by_cases ha : a = 2
                · rw [ha, upd_same] at hy; injection hy with hy; exact hy.symm
                · rw [upd_other _ _ ha] at hy; cases hy
              subst hyx
              have := unhide HX2N ad e; omega))
            have HB16 := hide ((unhide HB15).trans (hon.below (B := w.heap.size) (by omega) (fun j hj => by have := hS j hj; omega)))
            have hs16 := hon.size
            clear hra hry hon hS
            have HOUT2 := hide (out_end pa _ wr (unhide HEA16) (by show (sA.r ++ [x]).length ≤ 4096; rw [unhide HR0]; simp) (by show 0 ≤ sA.sent; rw [(unhide HSA).2.2.1]; omega) (by show sA.sent ≤ _; rw [(unhide HSA).2.2.1]; omega))
            go_wp2_with (first
              | (go_at_call 12; refine (unhide HOUT2).mono ?_; rintro _ w17 ⟨k1, Ao, co2, q, rfl, hk1, hql, hqm, hrow, hlq, hbel17, hst17, hnb, hob⟩
                 simp only [unhide HR0, List.length_cons, List.length_nil] at hk1
                 obtain rfl : k1 = 1 := (by omega)
                 obtain ⟨⟨zl, ZA, zc⟩, rfl⟩ : ∃ z, q = [z] := List.length_eq_one_iff.1 hql
                 obtain rfl : zl = yl := (by simp only [unhide HR0] at hqm; simpa [unhide HX] using hqm)
                 obtain ⟨g17, cap17, hv, hbg17, hlt17⟩ := hrow.form (by omega)
                 obtain rfl : Ao = some ⟨g17, 0, none⟩ := (by injection hv)
                 have e0 : w17.cell? ⟨g17, 0, none⟩ = some (.int .i64 0) := hrow.cellAt 0 (by omega)
                 have e1 : w17.cell? ⟨g17, 1, none⟩ = some (.int .i64 ep) := (hrow.cellAt 1 (by omega)).trans (by simp [outCells, (unhide HSA).1])
                 have e2 : w17.cell? ⟨g17, 2, none⟩ = some (.int .i64 1) := (hrow.cellAt 2 (by omega)).trans (by simp [outCells, (unhide HSA).2.2.1])
                 have e3 : w17.cell? ⟨g17, 3, none⟩ = some (.int .i64 0) := (hrow.cellAt 3 (by omega)).trans (by simp [outCells, (unhide HSA).2.2.2.1])
                 have e4 : w17.cell? ⟨g17, 4, none⟩ = some (.slice ZA zl.length zc) := (hrow.cellAt 4 (by omega)).trans (by simp [outCells])
                 have HEC17 := hide ((unhide HEC16).new hbel17)
                 have HB17 := hide ((unhide HB16).trans (hbel17.mono (unhide HB16).size))
                 have HZ17 := hide (hob _ (List.mem_singleton.2 rfl))
                 have HIN2 := hide (in_end pb sC 2 0 ep 1 0 ZA zl zc w17 (unhide HEC17) (unhide HINV15) (by omega) (fun u hu => (RdB.of_own (unhide HZ17)).only hu (Nat.le_refl _) (fun ad e h => by
                   subst e
                   have h1 := ((unhide HZ17).lt ad.block rfl).1
                   have h2 := unhide HFC pb (.inl rfl)
                   have h3 := (unhide HEC15).foot pb (.inl rfl)
                   omega)) (by omega) (by omega) (by omega))
                 clear hrow hlq hbel17 hst17 hnb hob hql hqm hv hk1)
              | (go_at_call 14; refine (unhide HIN2).mono ?_; rintro _ w18 ⟨sD, q18, A18, c18, er18, rfl, hrow18, hok18, hst18, _, _, hin18⟩
                 obtain ⟨rfl, y18, hy18, rfl⟩ := inSays_one (unhide HSC).1 (unhide HSC).2.1 (unhide HSC).2.2.1 (unhide HSC).2.2.2.1 (unhide HSC).2.2.2.2 hin18
                 have HROW18 := hide hrow18; have HOK18 := hide hok18; have HY18 := hide hy18
                 have HB18 := hide ((unhide HB17).trans (hst18.only.below (unhide HB17).size (fun k hk => by have := unhide HFC k hk; omega)))
                 have hs18 := hst18.only.size
                 clear hrow18 hok18 hst18 hin18 hy18)
              | (go_at_call 15; refine (unhide HA _).mono ?_; rintro _ w19 ⟨rfl, hb19⟩
                 have HROW19 := hide (own_below (unhide HROW18) hb19 (fun k hk => ((unhide HROW18).lt k hk).2))
                 have HB19 := hide ((unhide HB18).trans (hb19.mono (unhide HB18).size))
                 obtain ⟨g19, cap19, hv, hbg19, hlt19⟩ := (unhide HROW19).form (by simp)
                 obtain rfl : A18 = some ⟨g19, 0, none⟩ := (by injection hv)
                 have d0 : w19.cell? ⟨g19, 0, none⟩ = some (.slice y18.2.1 y18.1.length y18.2.2) := (unhide HROW19).cellAt 0 (by simp)
                 have d1 : w19.cell? ⟨g19, 1, none⟩ = some (.slice x2.2.1 x2.1.length x2.2.2) := (unhide HROW19).cellAt 1 (by simp)
                 rw [unhide HY18] at d0; rw [unhide HX2] at d1
                 have HS1 := hide (same_any zl zl y18.2.1 A y18.2.2 c _ _ w19 (by have h := ((unhide HOK18 y18 (by simp)).1.by (By.of_new hb19)).rd; rw [unhide HY18] at h; exact h) ((unhide HR).below (unhide HB19)))
                 have HS2 := hide (same_any zl zl x2.2.1 A x2.2.2 c _ _ w19 (by have h := ((unhide HOK18 x2 (by simp)).1.by (By.of_new hb19)).rd; rw [unhide HX2] at h; exact h) ((unhide HR).below (unhide HB19)))
                 clear hb19 hv)
              | (go_at_call 13; first | (with_reducible refine (unhide HS1).mono ?_) | (with_reducible refine (unhide HS2).mono ?_)
                 rintro _ w20 ⟨rfl, rfl⟩; rw [beq_self_eq_true]))
            go_ret
            exact ⟨rfl, unhide HB19⟩
end Go.Proofs.Ytmmkjphkfhgcpaa
