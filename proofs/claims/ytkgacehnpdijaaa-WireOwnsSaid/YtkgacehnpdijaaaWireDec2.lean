/- The program's Decode. The document's Decode. -/
import Derived.Test.YtkgacehnpdijaaaWireRdB
import Derived.Test.YtkgacehnpdijaaaWireReadP
import Derived.Test.YtkgacehnpdijaaaWireReadQ
import Derived.Test.YtkgacehnpdijaaaWireRdA
import Derived.Laws.Rows
import Derived.Test.YtkgacehnpdijaaaWireRdC
namespace Go.Proofs.Ytkgacehnpdijaaa
set_option linter.unusedVariables false
set_option linter.unusedSimpArgs false
open Go.RowKit Wire

theorem results_cells2 {fn : Func} {p q : Tmp} (h : fn.results = #[.cell p 28, .cell q 32]) (tmps : Array Value) (w : World) (g g2 : Nat) (cs : Array Value) (x : Int)
    (hp : tmps.getD p undef = .pointer (some ⟨g, 0, none⟩)) (hq : tmps.getD q undef = .pointer (some ⟨g2, 0, none⟩)) (hg : Blk w g 28 cs) (hg2 : Blk w g2 32 #[.int .i64 x]) (hs : cs.size = 14) :
    (results fn tmps).run Try.prog w = .ok (.tuple #[.agg cs, .int .i64 x]) w := by
  have hp' : tmps[p]?.getD undef = .pointer (some ⟨g, 0, none⟩) := by simpa using hp
  have hq' : tmps[q]?.getD undef = .pointer (some ⟨g2, 0, none⟩) := by simpa using hq
  have hc : w.cell? ⟨g2, 0, none⟩ = some (.int .i64 x) := hg2.cell 0
  have hi : (Try.prog.info? 28).map (·.size) = some cs.size := by rw [hs]; kernel_rfl
  have h1 : (loadVar 28 ⟨g, 0, none⟩).run Try.prog w = .ok (.agg cs) w := run_loadVar_row w g 28 28 cs (0, 0) _ hg Try.underlying28 rfl hi
  have h2 : (loadVar 32 ⟨g2, 0, none⟩).run Try.prog w = .ok (.int .i64 x) w := by simp [isAgg, run_underlying Try.underlying32, go_sem, hc]
  simp [results, h, hp', hq', asAddr, h1, h2]
/-- what Decode answers -/
def DecRes (v : Int) (b : List UInt8) (w : World) (e : Ending) (w' : World) : Prop :=
  ∃ A c vA vc, e = .returned (.tuple #[.agg (mcells (decM v b) A c vA vc), .int .i64 (decE v b)]) ∧ MOwn w' w.heap.size (decM v b) A c vA vc ∧ Below w.heap.size w w'
theorem mown0 (w : World) (base : Nat) : MOwn w base ms0 none 0 none 0 := ⟨own_nil _ _ _ _, own_nil _ _ _ _⟩
set_option maxHeartbeats 2000000 in
theorem decode_other (v : Int) (b : List UInt8) (A : Option Addr) (c : Nat) (w : World) (hv : v ≠ 1 ∧ v ≠ 2) : Calls Try.prog 24 #[.int .i64 v, .slice A b.length c] w (DecRes v b w) := by
  have HD := hide (dec_other hv b)
  have g1 : (v != 1) = true := by simp [hv.1]
  have g2 : (v != 2) = true := by simp [hv.2]
  clear hv
  go_enter_defers Try.func24, Try.ntmps24
  go_upto_region 1 with fail
  obtain ⟨w1, hw1⟩ : ∃ u, (w.alloc (.cells zeroMsg 28)).alloc (.cells #[.int .i64 0] 32) = u := ⟨_, rfl⟩
  have hm1 : Blk w1 w.heap.size 28 zeroMsg := by rw [← hw1]; exact (Blk.new w _ _).alloc _
  have he1 : Blk w1 (w.heap.size + 1) 32 #[.int .i64 0] := by
    rw [← hw1]
    have := Blk.new (w.alloc (.cells zeroMsg 28)) 32 #[.int .i64 0]
    rw [szA] at this
    exact this
  have hb1 : Below w.heap.size w w1 := by rw [← hw1]; exact ((Below.refl _ _).alloc (Nat.le_refl _) _).alloc (by simp) _
  rw [hw1]
  have HM1 := hide hm1; have HE1 := hide he1; have HB1 := hide hb1
  clear hw1 hm1 he1 hb1
  go_wp2_with (refine wpList_store_blk rfl 28 (.tmp 4) (.tmp 13) rfl w.heap.size zeroMsg (by rfl) (by rfl) 28 zeroMsg (unhide HM1) (by kernel_rfl) rfl (by kernel_rfl) ?_
               intro w5 hb5 hg5
               have he5 := (unhide HE1).grown hg5 (by intro h; injection h with h; omega)
               have HB5 := hide hb5
               have HG5 := hide hg5
               have HE5 := hide he5
               have fe : w5.cell? ⟨w.heap.size + 1, 0, none⟩ = some (.int .i64 0) := he5.cell 0
               have fz := he5.frozen 0
               clear hb5 hg5 he5)
  have h5 := (unhide HE5).set_ 0 (.int .i64 15)
  have h6 := (unhide HB5).far (p := ⟨w.heap.size + 1, 0, none⟩) (by show w.heap.size ≠ w.heap.size + 1; omega) (.int .i64 15)
  have h7 := ((unhide HB1).grown (unhide HG5) (unhide HB1).size (by intro k hk; injection hk with hk; omega)).setCell (p := ⟨w.heap.size + 1, 0, none⟩) (by show w.heap.size ≤ w.heap.size + 1; omega) (.int .i64 15)
  obtain ⟨w6, hw6⟩ : ∃ u, w5.setCell ⟨w.heap.size + 1, 0, none⟩ (.int .i64 15) = u := ⟨_, rfl⟩
  rw [hw6] at h5 h6 h7 ⊢
  refine ⟨_, results_cells2 rfl _ _ w.heap.size (w.heap.size + 1) zeroMsg 15 rfl rfl h6 h5 rfl, none, 0, none, 0, ?_, ?_, h7⟩
  · rw [(unhide HD).1, (unhide HD).2]; rfl
  · rw [(unhide HD).1]; exact mown0 _ _
theorem below_only {S : Nat → Prop} {B : Nat} {w u u' : World} (hb : Below B w u) (hB : B ≤ w.heap.size) (ho : Only S u u') (hs : ∀ k, S k → B ≤ k) : Below B w u' := hb.trans (ho.below (Nat.le_trans hB hb.size) hs)
/-- behind the door: Decode gave up -/
theorem gave_leaves {v : Int} {b : List UInt8} {w w' : World} {tmps : Array Value} {pm pe : Nat} {er x : Int} {cs : Array Value} (hm : Blk w' pm 28 cs) (hs : cs.size = 14) (he : Blk w' pe 32 #[.int .i64 x]) (hne : pm ≠ pe)
    (h4 : tmps.getD 4 undef = .pointer (some ⟨pm, 0, none⟩)) (h5 : tmps.getD 5 undef = .pointer (some ⟨pe, 0, none⟩)) (hd : decM v b = ms0 ∧ decE v b = er) (hb : Below w.heap.size w w') (hp : w.heap.size ≤ pm) (hq : w.heap.size ≤ pe) :
    Leaves Try.prog Try.f24 tmps (DecRes v b w) [{ target := .fn (.func 36) #[.pointer (some ⟨pm, 0, none⟩), .pointer (some ⟨pe, 0, none⟩)], args := #[] }] (.panicking [{ v := .iface 59 (.int .i64 er), recovered := false }]) w' := by
  refine leaves_cons (f := 36) (args := #[.pointer (some ⟨pm, 0, none⟩), .pointer (some ⟨pe, 0, none⟩)]) (by simp) (by simp [go_sem]) ?_
  refine (catch_gave pm pe cs x er [] w' hm hs he hne).mono ?_
  rintro e u' w'' ⟨rfl, rfl, hm2, he2, ho⟩
  have hb2 : Below w.heap.size w w'' := below_only hb (Nat.le_refl _) ho fun k hk => by rcases hk with rfl | rfl <;> omega
  exact ⟨_, results_cells2 rfl _ _ pm pe zeroMsg er h4 h5 hm2 he2 rfl, none, 0, none, 0, by rw [hd.1, hd.2]; rfl, by rw [hd.1]; exact mown0 _ _, hb2⟩
/-- behind the door: Decode came to its end -/
theorem done_leaves {v : Int} {b : List UInt8} {w w' : World} {tmps : Array Value} {pm pe : Nat} {m : Ms} {A : Option Addr} {c : Nat} {vA : Option Addr} {vc : Nat} (hm : Blk w' pm 28 (mcells m A c vA vc)) (he : Blk w' pe 32 #[.int .i64 0])
    (h4 : tmps.getD 4 undef = .pointer (some ⟨pm, 0, none⟩)) (h5 : tmps.getD 5 undef = .pointer (some ⟨pe, 0, none⟩)) (hd : decM v b = m ∧ decE v b = 0) (hb : Below w.heap.size w w') (ho : MOwn w' w.heap.size m A c vA vc) :
    Leaves Try.prog Try.f24 tmps (DecRes v b w) [{ target := .fn (.func 36) #[.pointer (some ⟨pm, 0, none⟩), .pointer (some ⟨pe, 0, none⟩)], args := #[] }] .returning w' := by
  refine leaves_cons (f := 36) (args := #[.pointer (some ⟨pm, 0, none⟩), .pointer (some ⟨pe, 0, none⟩)]) (by simp) (by simp [go_sem]) ?_
  refine (catch_idle pm pe w').mono ?_
  rintro e u' w'' ⟨rfl, rfl, rfl⟩
  exact ⟨_, results_cells2 rfl _ _ pm pe _ 0 h4 h5 hm he rfl, A, c, vA, vc, by rw [hd.1, hd.2], by rw [hd.1]; exact ho, hb⟩
theorem v_one : (1 : Int) = 1 ∨ (1 : Int) = 2 := .inl rfl
theorem v_two : (2 : Int) = 1 ∨ (2 : Int) = 2 := .inr rfl
set_option maxHeartbeats 8000000 in
set_option maxRecDepth 20000 in
theorem decode_one (v : Int) (hv : v = 1 ∨ v = 2) (b : List UInt8) (A : Option Addr) (c B : Nat) (w : World) (hr : RdB w B A b) (hB : B ≤ w.heap.size) (hc : b.length ≤ c) (hm : c ≤ 9223372036854775807 ∧ b.length ≤ 140737488351232) : Calls Try.prog 24 #[.int .i64 v, .slice A b.length c] w (DecRes v b w) := by
  have hmf : ∀ (fn : Fn) (first cap : Array Value) (w : World), (Instr.makeFunc fn first cap).run Try.prog w = .ok (.func fn first cap) w := fun _ _ _ _ => rfl
  have g0 : (v != 1 && v != 2) = false := by rcases hv with rfl | rfl <;> rfl
  have HRB := hide hr
  clear hr
  rcases hv with rfl | rfl
  · go_enter_defers Try.func24, Try.ntmps24
    go_upto_region 5 with fail
    obtain ⟨w3, hw3⟩ : ∃ u, ((w.alloc (.cells zeroMsg 28)).alloc (.cells #[.int .i64 0] 32)).alloc (.cells #[.slice A b.length c] 62) = u := ⟨_, rfl⟩
    have hs1 : (w.alloc (.cells zeroMsg 28)).heap.size = w.heap.size + 1 := szA _ _
    have hs2 : ((w.alloc (.cells zeroMsg 28)).alloc (.cells #[.int .i64 0] 32)).heap.size = w.heap.size + 1 + 1 := by rw [szA, hs1]
    obtain ⟨pm, hpm⟩ : ∃ x, w.heap.size = x := ⟨_, rfl⟩
    obtain ⟨pe, hpe⟩ : ∃ x, pm + 1 = x := ⟨_, rfl⟩
    obtain ⟨R, hR⟩ : ∃ x, pe + 1 = x := ⟨_, rfl⟩
    rw [hpm, hpe] at hs1
    rw [hpm, hpe, hR] at hs2
    have hm3 : Blk w3 pm 28 (mcells (mkMs 0 zParts) none 0 none 0) := by rw [← hw3, ← hpm]; exact ((Blk.new w _ _).alloc _).alloc _
    have he3 : Blk w3 pe 32 #[.int .i64 0] := by rw [← hw3, ← hs1]; exact (Blk.new _ _ _).alloc _
    have hq3 : Blk w3 R 62 #[.slice A b.length c] := by rw [← hw3, ← hs2]; exact Blk.new _ _ _
    have hb3 : Below pm w w3 := by rw [← hw3, ← hpm]; exact (((Below.refl _ _).alloc (Nat.le_refl _) _).alloc (by simp) _).alloc (by rw [hs2]; omega) _
    have hr3 : RAt w3 R B b := ⟨A, c, hq3, hc, hm, (unhide HRB).below (hb3.mono (by omega)), by omega⟩
    have hz3 : w3.heap.size = R + 1 := by rw [← hw3, szA, hs2]
    rw [hpm, hpe, hR, hw3]
    have HM3 := hide hm3; have HE3 := hide he3; have HB3 := hide hb3; have HR3 := hide hr3
    have HPM := hide hpm
    have hpw : pm ≤ w.heap.size := by omega
    have hne : pm ≠ R := by omega
    have hne2 : pm ≠ pe := by omega
    have hne3 : pe ≠ R := by omega
    have hBp : B ≤ pm := by omega
    have hpeP : pm ≤ pe := by omega
    have hRP : pm ≤ R := by omega
    have HF1 : Hid (∀ u b, RAt u R B b → Calls Try.prog 37 #[.pointer (some ⟨R, 0, none⟩), .int .i64 1] u (RdOut (fixC 1).rd (Value.int .u64) R B b u)) := fun u b h => r_fixed R B 1 b u h (by omega) (by omega)
    clear hw3 hs1 hs2 hm3 he3 hq3 hb3 hr3 hpm hpe hR hz3
    go_upto_region 6 with (first
      | (go_at_call 37; (with_reducible refine Calls.mono (unhide HF1 _ _ (unhide HR3)) ?_); go_must ((
         rintro _ u1 hout
         rcases hout with ⟨er, h, rfl, ho⟩ | ⟨k, r1, h, rfl, hr, ho⟩
         · unfold gaveUp
           go_wp2_with fail
           exact gave_leaves ((unhide HM3).only ho (fun e => hne e)) rfl ((unhide HE3).only ho (fun e => hne3 e)) hne2 rfl rfl (dec_bad v_one (msg_kind_err v_one (kind_err h))) (below_only (by rw [unhide HPM]; exact unhide HB3) (Nat.le_refl _) ho (fun k hk => by rw [unhide HPM]; omega)) (by rw [unhide HPM]; omega) (by rw [unhide HPM]; omega)
         have hk0 := ((fix_law 1).bwd _ _ _ h).1.1
         have hk1 : k < 256 := ((fix_law 1).bwd _ _ _ h).1.2
         have e2 : IntKind.i64.wrap k = k := by simp [IntKind.wrap, IntKind.signed, IntKind.bits]; omega
         have H1 := hide h
         have hk := (unhide HM3).only ho (fun e => hne e)
         have HM1 := hide hk
         have HE1 := hide ((unhide HE3).only ho (fun e => hne3 e))
         have HR1 := hide hr
         have HB1 := hide (below_only (unhide HB3) hpw ho (fun k hk => by omega))
         have f0 : u1.cell? ⟨pm, 0, none⟩ = some (.int .i64 0) := hk.cell 0
         have fz := hk.frozen 0
         clear h hr ho hk))))
    have hm2 : Blk (u1.setCell ⟨pm, 0, none⟩ (.int .i64 k)) pm 28 (mcells (mkMs k zParts) none 0 none 0) := (unhide HM1).set_ 0 (.int .i64 k)
    have ho2 := (Only.refl (fun j => j = pm) u1).setCell (p := ⟨pm, 0, none⟩) rfl (.int .i64 k)
    have he2 := (unhide HE1).only ho2 (fun e => hne2 e.symm)
    have hr2 := (unhide HR1).only ho2 (fun j hj => by subst hj; exact ⟨hBp, hne⟩)
    have hb2 := below_only (unhide HB1) hpw ho2 (fun j hj => by omega)
    obtain ⟨u2, hu2⟩ : ∃ u, u1.setCell ⟨pm, 0, none⟩ (.int .i64 k) = u := ⟨_, rfl⟩
    rw [hu2] at hm2 he2 hr2 hb2 ⊢
    have f0 : u2.cell? ⟨pm, 0, none⟩ = some (.int .i64 k) := hm2.cell 0
    have HM2 := hide hm2; have HE2 := hide he2; have HR2 := hide hr2; have HB2 := hide hb2
    have hp2 := hm2.lt
    have hp4 := he2.lt
    clear hu2 ho2 hm2 he2 hr2 hb2 fz e2
    clear HM1 HE1 HR1 HB1 HM3 HE3 HR3 HB3
    by_cases hk1 : k < 1
    · have HD := hide (dec_bad v_one (msg_kind_err v_one (kind_bad (unhide H1) (.inl hk1))))
      go_wp2_with (go_at_call 38; refine Calls.mono (need_bad _ 5 _ (by omega)) ?_; rintro _ ux ⟨rfl, rfl⟩; unfold gaveUp)
      exact gave_leaves (unhide HM2) rfl (unhide HE2) hne2 rfl rfl (unhide HD) (by rw [unhide HPM]; exact unhide HB2) (by rw [unhide HPM]; omega) (by rw [unhide HPM]; omega)
    by_cases hk2 : 26 < k
    · have HD := hide (dec_bad v_one (msg_kind_err v_one (kind_bad (unhide H1) (.inr hk2))))
      go_wp2_with (go_at_call 38; refine Calls.mono (need_bad _ 5 _ (by omega)) ?_; rintro _ ux ⟨rfl, rfl⟩; unfold gaveUp)
      exact gave_leaves (unhide HM2) rfl (unhide HE2) hne2 rfl rfl (unhide HD) (by rw [unhide HPM]; exact unhide HB2) (by rw [unhide HPM]; omega) (by rw [unhide HPM]; omega)
    have HK := hide (kind_go (unhide H1) hk1 hk2)
    have HP := hide (r_elder k R B pm r1 u2 (unhide HR2) (unhide HM2) hne hBp)
    have hp3 := (unhide HR2).lt
    go_upto_region 11 with (go_at_call 39; (with_reducible refine Calls.mono (unhide HP) ?_); go_must ((
       rintro _ u3 hout
       rcases hout with ⟨er, h, rfl, hcs, ho⟩ | ⟨p, more, A2, c2, vA, vc, h, rfl, hr, hmb, hown, ho⟩
       · unfold gaveUp
         go_wp2_with fail
         obtain ⟨cs, hcs, hsz⟩ := hcs
         exact gave_leaves hcs hsz ((unhide HE2).only ho (fun e => by omega)) hne2 rfl rfl (dec_bad v_one (parts_err v_one (unhide HK) h)) (below_only (by rw [unhide HPM]; exact unhide HB2) (Nat.le_refl _) ho (fun k hk => by rw [unhide HPM]; omega)) (by rw [unhide HPM]; omega) (by rw [unhide HPM]; omega)
       have H3 := hide h
       have HR3 := hide hr
       have HM3 := hide hmb
       have HE3 := hide ((unhide HE2).only ho (fun e => by omega))
       have HW3 := hide hown
       have HB3 := hide (below_only (unhide HB2) hpw ho (fun k hk => by omega))
       have hz3 := ho.size
       clear h hr hmb hown ho f0)))
    clear HP HR2 HM2 HE2
    obtain ⟨A3, c3, hq, hc3, hm3, hr3, hBR⟩ := unhide HR3
    have fq : u3.cell? ⟨R, 0, none⟩ = some (.slice A3 more.length c3) := hq.cell 0
    clear hq hr3 HR3
    by_cases hml : more.length = 0
    rotate_left
    · have HD := hide (dec_bad v_one (parts_more v_one (unhide HK) (unhide H3) hml))
      have g3 : ((more.length : Int) == 0) = false := by simp; intro h; exact hml (by simp [h])
      clear hml
      go_wp2_with (go_at_call 41; refine Calls.mono (some_bad _ _) ?_; rintro _ ux ⟨rfl, rfl⟩; unfold gaveUp)
      exact gave_leaves (unhide HM3) rfl (unhide HE3) hne2 rfl rfl (unhide HD) (by rw [unhide HPM]; exact unhide HB3) (by rw [unhide HPM]; omega) (by rw [unhide HPM]; omega)
    obtain rfl := List.eq_nil_of_length_eq_zero hml
    have HD := hide (dec_good v_one (parts_ok v_one (unhide HK) (unhide H3)))
    clear hml
    go_upto_region 12 with (go_at_call 41; refine Calls.mono (some_ok _ _) ?_; rintro _ ux ⟨rfl, rfl⟩)
    go_wp2_with (first
      | refine wpList_load_blk rfl 28 (.tmp 4) rfl (pm) rfl 28 _ _ ((unhide HM3)) Try.underlying28 rfl (by kernel_rfl) ?_
      | (refine wpList_store_blk rfl 28 (.tmp 4) (.tmp 46) rfl pm (mcells (mkMs k p) A2 c2 vA vc) (by rfl) (by rfl) 28 _ (unhide HM3) (by kernel_rfl) rfl (by kernel_rfl) ?_
         intro u4 hb4 hg4
         have he4 := (unhide HE3).grown hg4 (by intro h; injection h with h; omega)
         have HM4 := hide hb4
         have HG4 := hide hg4
         have HE4 := hide he4
         have fe : u4.cell? ⟨pe, 0, none⟩ = some (.int .i64 0) := he4.cell 0
         have fz := he4.frozen 0
         clear hb4 hg4 he4))
    have hog : Only (fun j => j = pm) u3 u4 := Only.of_grown (unhide HG4) (fun k hk => by injection hk with hk; exact hk.symm)
    have hoe := hog.mono (T := fun j => j = pm ∨ j = pe) (fun k _ hk => .inl hk) |>.setCell (p := ⟨pe, 0, none⟩) (.inr rfl) (.int .i64 0)
    have hm5 := (unhide HM4).far (p := ⟨pe, 0, none⟩) hne2 (.int .i64 0)
    have he5 : Blk (u4.setCell ⟨pe, 0, none⟩ (.int .i64 0)) pe 32 #[.int .i64 0] := (unhide HE4).set_ 0 _
    have hb5 := below_only (unhide HB3) hpw hoe (fun k hk => by rcases hk with rfl | rfl <;> omega)
    have how := unhide HW3
    have hpw2 := unhide HPM
    have hw5 : MOwn (u4.setCell ⟨pe, 0, none⟩ (.int .i64 0)) w.heap.size (mkMs k p) A2 c2 vA vc :=
      ⟨own_more (own_only how.vers hoe (fun g hg e => by have := (how.vers.lt g hg).1; rcases e with rfl | rfl <;> omega)) (fun g hg => by have := (how.vers.lt g hg).1; omega),
       own_more (own_only how.vec hoe (fun g hg e => by have := (how.vec.lt g hg).1; rcases e with rfl | rfl <;> omega)) (fun g hg => by have := (how.vec.lt g hg).1; omega)⟩
    exact done_leaves hm5 he5 rfl rfl (unhide HD) (by rw [unhide HPM]; exact hb5) hw5
  · go_enter_defers Try.func24, Try.ntmps24
    go_upto_region 5 with fail
    obtain ⟨w3, hw3⟩ : ∃ u, ((w.alloc (.cells zeroMsg 28)).alloc (.cells #[.int .i64 0] 32)).alloc (.cells #[.slice A b.length c] 62) = u := ⟨_, rfl⟩
    have hs1 : (w.alloc (.cells zeroMsg 28)).heap.size = w.heap.size + 1 := szA _ _
    have hs2 : ((w.alloc (.cells zeroMsg 28)).alloc (.cells #[.int .i64 0] 32)).heap.size = w.heap.size + 1 + 1 := by rw [szA, hs1]
    obtain ⟨pm, hpm⟩ : ∃ x, w.heap.size = x := ⟨_, rfl⟩
    obtain ⟨pe, hpe⟩ : ∃ x, pm + 1 = x := ⟨_, rfl⟩
    obtain ⟨R, hR⟩ : ∃ x, pe + 1 = x := ⟨_, rfl⟩
    rw [hpm, hpe] at hs1
    rw [hpm, hpe, hR] at hs2
    have hm3 : Blk w3 pm 28 (mcells (mkMs 0 zParts) none 0 none 0) := by rw [← hw3, ← hpm]; exact ((Blk.new w _ _).alloc _).alloc _
    have he3 : Blk w3 pe 32 #[.int .i64 0] := by rw [← hw3, ← hs1]; exact (Blk.new _ _ _).alloc _
    have hq3 : Blk w3 R 62 #[.slice A b.length c] := by rw [← hw3, ← hs2]; exact Blk.new _ _ _
    have hb3 : Below pm w w3 := by rw [← hw3, ← hpm]; exact (((Below.refl _ _).alloc (Nat.le_refl _) _).alloc (by simp) _).alloc (by rw [hs2]; omega) _
    have hr3 : RAt w3 R B b := ⟨A, c, hq3, hc, hm, (unhide HRB).below (hb3.mono (by omega)), by omega⟩
    have hz3 : w3.heap.size = R + 1 := by rw [← hw3, szA, hs2]
    rw [hpm, hpe, hR, hw3]
    have HM3 := hide hm3; have HE3 := hide he3; have HB3 := hide hb3; have HR3 := hide hr3
    have HPM := hide hpm
    have hpw : pm ≤ w.heap.size := by omega
    have hne : pm ≠ R := by omega
    have hne2 : pm ≠ pe := by omega
    have hne3 : pe ≠ R := by omega
    have hBp : B ≤ pm := by omega
    have hpeP : pm ≤ pe := by omega
    have hRP : pm ≤ R := by omega
    have HF1 : Hid (∀ u b, RAt u R B b → Calls Try.prog 37 #[.pointer (some ⟨R, 0, none⟩), .int .i64 1] u (RdOut (fixC 1).rd (Value.int .u64) R B b u)) := fun u b h => r_fixed R B 1 b u h (by omega) (by omega)
    clear hw3 hs1 hs2 hm3 he3 hq3 hb3 hr3 hpm hpe hR hz3
    go_upto_region 6 with (first
      | (go_at_call 37; (with_reducible refine Calls.mono (unhide HF1 _ _ (unhide HR3)) ?_); go_must ((
         rintro _ u1 hout
         rcases hout with ⟨er, h, rfl, ho⟩ | ⟨k, r1, h, rfl, hr, ho⟩
         · unfold gaveUp
           go_wp2_with fail
           exact gave_leaves ((unhide HM3).only ho (fun e => hne e)) rfl ((unhide HE3).only ho (fun e => hne3 e)) hne2 rfl rfl (dec_bad v_two (msg_kind_err v_two (kind_err h))) (below_only (by rw [unhide HPM]; exact unhide HB3) (Nat.le_refl _) ho (fun k hk => by rw [unhide HPM]; omega)) (by rw [unhide HPM]; omega) (by rw [unhide HPM]; omega)
         have hk0 := ((fix_law 1).bwd _ _ _ h).1.1
         have hk1 : k < 256 := ((fix_law 1).bwd _ _ _ h).1.2
         have e2 : IntKind.i64.wrap k = k := by simp [IntKind.wrap, IntKind.signed, IntKind.bits]; omega
         have H1 := hide h
         have hk := (unhide HM3).only ho (fun e => hne e)
         have HM1 := hide hk
         have HE1 := hide ((unhide HE3).only ho (fun e => hne3 e))
         have HR1 := hide hr
         have HB1 := hide (below_only (unhide HB3) hpw ho (fun k hk => by omega))
         have f0 : u1.cell? ⟨pm, 0, none⟩ = some (.int .i64 0) := hk.cell 0
         have fz := hk.frozen 0
         clear h hr ho hk))))
    have hm2 : Blk (u1.setCell ⟨pm, 0, none⟩ (.int .i64 k)) pm 28 (mcells (mkMs k zParts) none 0 none 0) := (unhide HM1).set_ 0 (.int .i64 k)
    have ho2 := (Only.refl (fun j => j = pm) u1).setCell (p := ⟨pm, 0, none⟩) rfl (.int .i64 k)
    have he2 := (unhide HE1).only ho2 (fun e => hne2 e.symm)
    have hr2 := (unhide HR1).only ho2 (fun j hj => by subst hj; exact ⟨hBp, hne⟩)
    have hb2 := below_only (unhide HB1) hpw ho2 (fun j hj => by omega)
    obtain ⟨u2, hu2⟩ : ∃ u, u1.setCell ⟨pm, 0, none⟩ (.int .i64 k) = u := ⟨_, rfl⟩
    rw [hu2] at hm2 he2 hr2 hb2 ⊢
    have f0 : u2.cell? ⟨pm, 0, none⟩ = some (.int .i64 k) := hm2.cell 0
    have HM2 := hide hm2; have HE2 := hide he2; have HR2 := hide hr2; have HB2 := hide hb2
    have hp2 := hm2.lt
    have hp4 := he2.lt
    clear hu2 ho2 hm2 he2 hr2 hb2 fz e2
    clear HM1 HE1 HR1 HB1 HM3 HE3 HR3 HB3
    by_cases hk1 : k < 1
    · have HD := hide (dec_bad v_two (msg_kind_err v_two (kind_bad (unhide H1) (.inl hk1))))
      go_wp2_with (go_at_call 38; refine Calls.mono (need_bad _ 5 _ (by omega)) ?_; rintro _ ux ⟨rfl, rfl⟩; unfold gaveUp)
      exact gave_leaves (unhide HM2) rfl (unhide HE2) hne2 rfl rfl (unhide HD) (by rw [unhide HPM]; exact unhide HB2) (by rw [unhide HPM]; omega) (by rw [unhide HPM]; omega)
    by_cases hk2 : 26 < k
    · have HD := hide (dec_bad v_two (msg_kind_err v_two (kind_bad (unhide H1) (.inr hk2))))
      go_wp2_with (go_at_call 38; refine Calls.mono (need_bad _ 5 _ (by omega)) ?_; rintro _ ux ⟨rfl, rfl⟩; unfold gaveUp)
      exact gave_leaves (unhide HM2) rfl (unhide HE2) hne2 rfl rfl (unhide HD) (by rw [unhide HPM]; exact unhide HB2) (by rw [unhide HPM]; omega) (by rw [unhide HPM]; omega)
    have HK := hide (kind_go (unhide H1) hk1 hk2)
    have HP := hide (r_newer k R B pm r1 u2 (unhide HR2) (unhide HM2) hne hBp)
    have hp3 := (unhide HR2).lt
    go_upto_region 11 with (go_at_call 40; (with_reducible refine Calls.mono (unhide HP) ?_); go_must ((
       rintro _ u3 hout
       rcases hout with ⟨er, h, rfl, hcs, ho⟩ | ⟨p, more, A2, c2, vA, vc, h, rfl, hr, hmb, hown, ho⟩
       · unfold gaveUp
         go_wp2_with fail
         obtain ⟨cs, hcs, hsz⟩ := hcs
         exact gave_leaves hcs hsz ((unhide HE2).only ho (fun e => by omega)) hne2 rfl rfl (dec_bad v_two (parts_err v_two (unhide HK) h)) (below_only (by rw [unhide HPM]; exact unhide HB2) (Nat.le_refl _) ho (fun k hk => by rw [unhide HPM]; omega)) (by rw [unhide HPM]; omega) (by rw [unhide HPM]; omega)
       have H3 := hide h
       have HR3 := hide hr
       have HM3 := hide hmb
       have HE3 := hide ((unhide HE2).only ho (fun e => by omega))
       have HW3 := hide hown
       have HB3 := hide (below_only (unhide HB2) hpw ho (fun k hk => by omega))
       have hz3 := ho.size
       clear h hr hmb hown ho f0)))
    clear HP HR2 HM2 HE2
    obtain ⟨A3, c3, hq, hc3, hm3, hr3, hBR⟩ := unhide HR3
    have fq : u3.cell? ⟨R, 0, none⟩ = some (.slice A3 more.length c3) := hq.cell 0
    clear hq hr3 HR3
    by_cases hml : more.length = 0
    rotate_left
    · have HD := hide (dec_bad v_two (parts_more v_two (unhide HK) (unhide H3) hml))
      have g3 : ((more.length : Int) == 0) = false := by simp; intro h; exact hml (by simp [h])
      clear hml
      go_wp2_with (go_at_call 41; refine Calls.mono (some_bad _ _) ?_; rintro _ ux ⟨rfl, rfl⟩; unfold gaveUp)
      exact gave_leaves (unhide HM3) rfl (unhide HE3) hne2 rfl rfl (unhide HD) (by rw [unhide HPM]; exact unhide HB3) (by rw [unhide HPM]; omega) (by rw [unhide HPM]; omega)
    obtain rfl := List.eq_nil_of_length_eq_zero hml
    have HD := hide (dec_good v_two (parts_ok v_two (unhide HK) (unhide H3)))
    clear hml
    go_upto_region 12 with (go_at_call 41; refine Calls.mono (some_ok _ _) ?_; rintro _ ux ⟨rfl, rfl⟩)
    go_wp2_with (first
      | refine wpList_load_blk rfl 28 (.tmp 4) rfl (pm) rfl 28 _ _ ((unhide HM3)) Try.underlying28 rfl (by kernel_rfl) ?_
      | (refine wpList_store_blk rfl 28 (.tmp 4) (.tmp 46) rfl pm (mcells (mkMs k p) A2 c2 vA vc) (by rfl) (by rfl) 28 _ (unhide HM3) (by kernel_rfl) rfl (by kernel_rfl) ?_
         intro u4 hb4 hg4
         have he4 := (unhide HE3).grown hg4 (by intro h; injection h with h; omega)
         have HM4 := hide hb4
         have HG4 := hide hg4
         have HE4 := hide he4
         have fe : u4.cell? ⟨pe, 0, none⟩ = some (.int .i64 0) := he4.cell 0
         have fz := he4.frozen 0
         clear hb4 hg4 he4))
    have hog : Only (fun j => j = pm) u3 u4 := Only.of_grown (unhide HG4) (fun k hk => by injection hk with hk; exact hk.symm)
    have hoe := hog.mono (T := fun j => j = pm ∨ j = pe) (fun k _ hk => .inl hk) |>.setCell (p := ⟨pe, 0, none⟩) (.inr rfl) (.int .i64 0)
    have hm5 := (unhide HM4).far (p := ⟨pe, 0, none⟩) hne2 (.int .i64 0)
    have he5 : Blk (u4.setCell ⟨pe, 0, none⟩ (.int .i64 0)) pe 32 #[.int .i64 0] := (unhide HE4).set_ 0 _
    have hb5 := below_only (unhide HB3) hpw hoe (fun k hk => by rcases hk with rfl | rfl <;> omega)
    have how := unhide HW3
    have hpw2 := unhide HPM
    have hw5 : MOwn (u4.setCell ⟨pe, 0, none⟩ (.int .i64 0)) w.heap.size (mkMs k p) A2 c2 vA vc :=
      ⟨own_more (own_only how.vers hoe (fun g hg e => by have := (how.vers.lt g hg).1; rcases e with rfl | rfl <;> omega)) (fun g hg => by have := (how.vers.lt g hg).1; omega),
       own_more (own_only how.vec hoe (fun g hg e => by have := (how.vec.lt g hg).1; rcases e with rfl | rfl <;> omega)) (fun g hg => by have := (how.vec.lt g hg).1; omega)⟩
    exact done_leaves hm5 he5 rfl rfl (unhide HD) (by rw [unhide HPM]; exact hb5) hw5
end Go.Proofs.Ytkgacehnpdijaaa
namespace Go.Proofs.Ytkgacehnpdijaaa
set_option linter.unusedVariables false
set_option linter.unusedSimpArgs false
open Go.RowKit Wire

theorem part_any (v : Int) (i : Nat) (hi : i < 8) (m : Ms) (A : Option Addr) (c : Nat) (vA : Option Addr) (vc : Nat) (R B mm base : Nat) (b : List UInt8) (w : World) (hq : QAt w R B (.ok b)) (hm : Blk w mm 28 (mcells m A c vA vc)) (hw : MOwn w base m A c vA vc) (hne : mm ≠ R) (hBm : B ≤ mm) (hb : mm < base) (hbw : base ≤ w.heap.size) (hRb : R < base)
    (h5 : i ≤ 5 → m.vers = [] ∧ A = none ∧ c = 0) (h6 : i ≤ 6 → m.vec = [] ∧ vA = none ∧ vc = 0) :
    Calls Try.prog 44 #[.pointer (some ⟨R, 0, none⟩), .int .i64 v, .int .i64 (i : Int), .pointer (some ⟨mm, 0, none⟩)] w (PartOut v i m A c vA vc R B mm base b w) := by
  obtain rfl | rfl | rfl | rfl | rfl | rfl | rfl | rfl : i = 0 ∨ i = 1 ∨ i = 2 ∨ i = 3 ∨ i = 4 ∨ i = 5 ∨ i = 6 ∨ i = 7 := by omega
  · exact part_0 v m A c vA vc R B mm base b w hq hm hw hne hBm hb hbw hRb
  · exact part_1 v m A c vA vc R B mm base b w hq hm hw hne hBm hb hbw hRb
  · exact part_2 v m A c vA vc R B mm base b w hq hm hw hne hBm hb hbw hRb
  · exact part_3 v m A c vA vc R B mm base b w hq hm hw hne hBm hb hbw hRb
  · exact part_4 v m A c vA vc R B mm base b w hq hm hw hne hBm hb hbw hRb
  · obtain ⟨h0, rfl, rfl⟩ := h5 (by omega)
    exact part_5 v m vA vc R B mm base b w hq hm h0 hw hne hBm hb hbw hRb
  · obtain ⟨h0, rfl, rfl⟩ := h6 (by omega)
    exact part_6 v m A c R B mm base b w hq hm h0 hw hne hBm hb hbw hRb
  · exact part_7 v m A c vA vc R B mm base b w hq hm hw hne hBm hb hbw hRb
theorem results_cellt {fn : Func} {p q : Tmp} (h : fn.results = #[.cell p 28, .tmp q]) (tmps : Array Value) (w : World) (g : Nat) (cs : Array Value) (x : Value)
    (hp : tmps.getD p undef = .pointer (some ⟨g, 0, none⟩)) (hq : tmps.getD q undef = x) (hg : Blk w g 28 cs) (hs : cs.size = 14) :
    (results fn tmps).run Try.prog w = .ok (.tuple #[.agg cs, x]) w := by
  have hp' : tmps[p]?.getD undef = .pointer (some ⟨g, 0, none⟩) := by simpa using hp
  have hi : (Try.prog.info? 28).map (·.size) = some cs.size := by rw [hs]; kernel_rfl
  have h1 : (loadVar 28 ⟨g, 0, none⟩).run Try.prog w = .ok (.agg cs) w := run_loadVar_row w g 28 28 cs (0, 0) _ hg Try.underlying28 rfl hi
  rw [results_cell_tmp h, hp, hq]
  show (((asAddr (.pointer (some ⟨g, 0, none⟩))).run Try.prog w).andThen _) = _
  simp [asAddr, h1]
set_option maxHeartbeats 2000000 in
theorem rdecode_other (v : Int) (b : List UInt8) (A : Option Addr) (c : Nat) (w : World) (hv : v ≠ 1 ∧ v ≠ 2) : Calls Try.prog 25 #[.int .i64 v, .slice A b.length c] w (DecRes v b w) := by
  have HD := hide (dec_other hv b)
  have g1 : (v != 1) = true := by simp [hv.1]
  have g2 : (v != 2) = true := by simp [hv.2]
  clear hv
  go_enter Try.func25, Try.ntmps25
  go_upto_region 1 with fail
  obtain ⟨w1, hw1⟩ : ∃ u, w.alloc (.cells zeroMsg 28) = u := ⟨_, rfl⟩
  have hm1 : Blk w1 w.heap.size 28 zeroMsg := by rw [← hw1]; exact Blk.new w _ _
  have hb1 : Below w.heap.size w w1 := by rw [← hw1]; exact (Below.refl _ _).alloc (Nat.le_refl _) _
  rw [hw1]
  have HM1 := hide hm1; have HB1 := hide hb1
  clear hw1 hm1 hb1
  go_wp2_with (refine wpList_store_blk rfl 28 (.tmp 4) (.tmp 17) rfl w.heap.size zeroMsg (by rfl) (by rfl) 28 zeroMsg (unhide HM1) (by kernel_rfl) rfl (by kernel_rfl) ?_
               intro w5 hb5 hg5
               have HB5 := hide hb5
               have HG5 := hide hg5
               clear hb5 hg5)
  exact bodyPost_ret (results_cellt rfl _ _ w.heap.size zeroMsg _ rfl rfl (unhide HB5) rfl) rfl ⟨none, 0, none, 0, by rw [(unhide HD).1, (unhide HD).2]; rfl, by rw [(unhide HD).1]; exact mown0 _ _, (unhide HB1).grown (unhide HG5) (unhide HB1).size (by intro k hk; injection hk with hk; omega)⟩
theorem q_err {w : World} {R B : Nat} {er : Int} (h : QAt w R B (.error er)) : w.cell? ⟨R, 1, none⟩ = some (.int .i64 er) ∧ (er == 0) = false ∧ (er != 0) = true ∧ R < w.heap.size := by
  have hl := h.lt
  have hn := h.nz
  obtain ⟨A2, c2, l2, e2, hb2, _, _, _, _, ⟨hx1, _⟩ | ⟨hx1, _⟩⟩ := h
  · cases hx1
  injection hx1 with hx1
  subst hx1
  exact ⟨hb2.cell 1, by simp [hn], by simp [hn], hl⟩
theorem q_good {w : World} {R B : Nat} {q : List UInt8} (h : QAt w R B (.ok q)) : ∃ A c, w.cell? ⟨R, 0, none⟩ = some (.slice A q.length c) ∧ w.cell? ⟨R, 1, none⟩ = some (.int .i64 0) ∧ R < w.heap.size := by
  have hl := h.lt
  obtain ⟨A2, c2, l2, e2, hb2, _, _, _, _, ⟨hx1, he2⟩ | ⟨hx1, _⟩⟩ := h
  · injection hx1 with hx1
    subst hx1 he2
    exact ⟨A2, c2, hb2.cell 0, hb2.cell 1, hl⟩
  · cases hx1
/-- nothing of a message that is read any more -/
abbrev z14 : List Value := [.int .i64 0, .int .u64 0, .int .u64 0, .int .u64 0, .string ⟨#[]⟩, .string ⟨#[]⟩, .slice none 0 0, .slice none 0 0, .int .i64 0, .int .i64 0, .int .i64 0, .int .i64 0, .int .i64 0, .string ⟨#[]⟩]
end Go.Proofs.Ytkgacehnpdijaaa
