/- The walk of NetOwns. -/
import Derived.Test.YtbclfiollfagmaaNetLawA
import Derived.Test.YtbclfiollfagmaaFrame
namespace Go.Proofs.Ytbclfiollfagmaa
set_option linter.unusedVariables false
open Go.RowKit

theorem Came.u8 {H : Type} {enc : TypeId × Value → H} {P : Program} {W : World} {k : DataW H → Prop} {t : TypeId} {v : Value} (ht : P.underlying t = some (.int .u8)) (h : Came enc P W k t v) : ∃ s : BitVec 8, v = .int .u8 (s.toNat : Int) := by
  obtain ⟨n, rfl, w⟩ := h.int ht
  simp [Lit.wf, IntKind.min, IntKind.max, IntKind.signed, IntKind.bits] at w
  refine ⟨BitVec.ofNat 8 n.toNat, ?_⟩
  rw [BitVec.toNat_ofNat]
  congr 1
  omega
/-- the law's own net, and a row of bytes beside it -/
structure Besides (w wr : World) (p : Nat) (s : NS) (v : Value) (n : Nat) (xs : List Value) : Prop where
  mine : Mine w wr p s
  own : wr.ownsRow w.heap.size 5 1 v n xs
  free : ∀ g, v.ownBlock = some g → ¬ NFoot p s g
section
variable {w wr w' : World} {p n : Nat} {s s' : NS} {v : Value} {xs : List Value}
theorem Besides.step (h : Besides w wr p s v n xs) (hs : NStep wr w' w.heap.size p s s') : Besides w w' p s' v n xs :=
  ⟨h.mine.step hs, own_only h.own hs.only h.free, fun g hg hf => by
    rcases hs.foot g hf with h1 | h1
    · exact h.free g hg h1
    · have := (h.own.lt g hg).2
      omega⟩
theorem Besides.new (h : Besides w wr p s v n xs) (hb : Below wr.heap.size wr w') : Besides w w' p s v n xs := ⟨h.mine.new hb, own_only h.own (Only.of_new (S := fun _ => False) hb) (fun _ _ h => h), h.free⟩
end
theorem own_cellAt {w : World} {base : Nat} {e : TypeId} {g n c : Nat} {l : List UInt8} (h : w.ownsRow base e 1 (.slice (some ⟨g, 0, none⟩) n c) n (l.map Bv)) (k : Nat) (hk : k < n) (hl : l.length = n) :
    w.cell? ⟨g, k, none⟩ = some (.int .u8 ((l[k]'(by omega)).toNat : Int)) :=
  (h.cellAt k (by omega)).trans (by rw [List.getElem?_map, List.getElem?_eq_getElem (by omega)]; rfl)
theorem xor_255 (x : UInt8) : bits BinOp.xor IntKind.u8 (x.toNat : Int) 255 = ((x ^^^ 255).toNat : Int) := xor_u8 x 255
/-- the second packet is spoilt, or not; the first one stands -/
def Spoils (w : World) (p B : Nat) (s : NS) (x0 : Pk) (at_ : Int) (n : Nat) (m : UInt8) (e : Ending) (w' : World) : Prop :=
  ∃ er s', e = .returned (.int .i64 er) ∧ (er = 0 ↔ (0 ≤ at_ ∧ at_ < (n : Int) ∧ m ≠ 0)) ∧ NStep w w' B p s s' ∧ (s'.ways 23).ps[0]? = some x0
theorem spoil_two (B p : Nat) (s : NS) (x0 x1 : Pk) (at_ : Int) (m : UInt8) (w : World) (h : NetAt w B p s) (hx : (s.ways 23).ps = [x0, x1]) (hf : x1.2 = false) :
    Calls Try.prog 16 #[.pointer (some ⟨p, 0, none⟩), .int .i64 1, .int .i64 2, .int .i64 1, .int .i64 at_, Bv m] w (Spoils w p B s x0 at_ x1.1.1.length m) := by
  have h1 : (s.ways (1 * 21 + 2)).ps[1]? = some x1 := by show (s.ways 23).ps[1]? = _; rw [hx]; rfl
  have h0 : (s.ways 23).ps[0]? = some x0 := by rw [hx]; rfl
  by_cases hok : 0 ≤ at_ ∧ at_ < (x1.1.1.length : Int) ∧ m ≠ 0
  · obtain ⟨k, rfl⟩ : ∃ k : Nat, at_ = k := ⟨at_.toNat, by omega⟩
    refine (spoil_ok B p s 1 2 1 k m x1 w h (by omega) (by omega) (by omega) h1 (by omega) hok.2.2 hf).mono ?_
    rintro _ w' ⟨rfl, hst⟩
    refine ⟨0, _, rfl, ⟨fun _ => hok, fun _ => rfl⟩, hst, ?_⟩
    show ((s.put 23 _).ways 23).ps[0]? = _
    rw [NS.put_same]
    show ((s.ways 23).ps.set 1 _)[0]? = _
    rw [List.getElem?_set_ne (by omega)]
    exact h0
  · refine (spoil_arg B p s 1 2 1 at_ m x1 w h (by omega) (by omega) (by omega) h1 (by
      by_cases c1 : at_ < 0
      · exact .inl c1
      · by_cases c2 : (x1.1.1.length : Int) ≤ at_
        · exact .inr (.inl c2)
        · exact .inr (.inr (Decidable.byContradiction fun c3 => hok ⟨by omega, by omega, c3⟩)))).mono ?_
    rintro _ w' ⟨rfl, rfl⟩
    exact ⟨1, s, rfl, ⟨fun e => by omega, fun e => absurd e hok⟩, NStep.refl h, h0⟩
set_option maxHeartbeats 1000000 in
theorem netOwns_big (b : List UInt8) (A : Option Addr) (c : Nat) (at_ : Int) (m : Value) (w : World) (hb : 2000 < b.length) :
    Calls Try.prog 4 #[.slice A b.length c, .int .i64 at_, m] w fun e w' => e = .returned (.bool true) ∧ Below w.heap.size w w' := by
  have HN := hide (new_net w)
  have f1 : decide ((2000 : Int) < (b.length : Int)) = true := decide_eq_true (by omega)
  go_enter Try.func4, Try.ntmps4
  go_wp2_with (go_at_call 8; refine (unhide HN).mono ?_; rintro _ w1 ⟨rfl, hn1, hb1⟩)
  go_ret
  exact ⟨rfl, hb1⟩
set_option maxHeartbeats 4000000 in
set_option maxRecDepth 20000 in
theorem netOwns_any (b : List UInt8) (A : Option Addr) (c : Nat) (at_ : Int) (m : UInt8) (w : World) (hr : RdB w w.heap.size A b) (hlc : b.length ≤ c) :
    Calls Try.prog 4 #[.slice A b.length c, .int .i64 at_, Bv m] w fun e w' => e = .returned (.bool true) ∧ Below w.heap.size w w' := by
  by_cases hbig : 2000 < b.length
  · exact netOwns_big b A c at_ (Bv m) w hbig
  obtain ⟨i0, hi, hz0, hz1, hz2⟩ := info_parts u8info
  have HN := hide (new_net w)
  have HA := hide awake_any
  have HR := hide hr
  have f1 : decide ((2000 : Int) < (b.length : Int)) = false := decide_eq_false (by omega)
  have hb20 : b.length ≤ 2000 := by omega
  clear hr hbig
  show Calls _ _ #[_, _, .int .u8 (m.toNat : Int)] _ _
  go_enter Try.func4, Try.ntmps4
  go_upto_region 9 with (first
    | (go_at_call 8; refine (unhide HN).mono ?_; rintro _ w1 ⟨rfl, hn1, hb1⟩
       have HM1 : Hid (Mine w w1 w.heap.size newNS) := hide ⟨hn1, hb1⟩
       have HOn := hide (own_new w1 w1.heap.size #[] 5 0 [] (Nat.le_refl _) (by simp [maxLen]) rfl rfl)
       have HV1 := hide ((((unhide HR).below hb1).more hb1.size).alloc (Nat.le_refl _) (.cells #[] 5)).v; clear hn1 hb1)
    | (at_builtin
       refine wpList_append_any _ rfl (.tmp 26) (.tmp 27) _ rfl w1.heap.size 5 i0 _ 1 1 Try.underlying31 hi hz0 hz1 hz2 rfl (by omega) _ 0 [] rfl
         (unhide HOn) _ A b.length c _ rfl (unhide HV1) (by simp) oneCell_Bv (by simp only [maxLen]; omega) (by omega) (by simp) ?_
       intro A4 c4 w4 hown4 hg4 hat4 hbel4 hcc4
       rw [Nat.zero_add, List.nil_append] at hown4; rw [Nat.zero_add] at hcc4 ⊢
       have hbl : Below w1.heap.size w1 w4 := ((Below.refl _ w1).alloc (Nat.le_refl _) (.cells #[] 5)).trans hbel4
       have HE4 : Hid (Besides w w4 w.heap.size newNS (.slice A4 b.length c4) b.length (b.map Bv)) := hide ⟨(unhide HM1).new hbl, own_more hown4 (fun g hg => by have := (hown4.lt g hg).1; have := (unhide HM1).below.size; omega), fun g hg hf => by have h1 := (hown4.lt g hg).1; have h2 := ((unhide HM1).at_.foot hf).2; omega⟩
       clear hown4 hg4 hat4 hbel4 hbl)
    | (go_at_call 11; refine (send_ok w.heap.size w.heap.size newNS 1 2 b A4 c4 w4.heap.size w4 (unhide HE4).mine.at_ (by omega) (by omega) (by omega) (by simp [newNS]) (RdB.of_own (unhide HE4).own) (Nat.le_refl _) (by omega)).mono ?_; rintro _ w5 ⟨rfl, A5, c5, A2, c2, hst⟩
       obtain ⟨s5, hs5, hw5⟩ : ∃ s5 : NS, (newNS.put (1 * 21 + 2) ⟨A5, c5, (newNS.ways (1 * 21 + 2)).ps ++ [((b, A2, c2), false)]⟩) = s5 ∧ (s5.ways 23).ps = [((b, A2, c2), false)] := ⟨_, rfl, by rw [NS.put_same]; rfl⟩
       rw [hs5] at hst
       have HW5 := hide hw5; have HE5 := hide ((unhide HE4).step hst); clear hst hs5 hw5)
    | (go_at_call 14; refine (twice_ok w.heap.size w.heap.size s5 1 2 0 ((b, A2, c2), false) w5 (unhide HE5).mine.at_ (by omega) (by omega) (by omega) (by show (s5.ways 23).ps[0]? = _; rw [unhide HW5]; rfl) (by show (s5.ways 23).ps.length < 48; rw [unhide HW5]; simp)).mono ?_; rintro _ w6 ⟨rfl, A6, c6, A7, c7, hst⟩
       obtain ⟨s6, hs6, hw6⟩ : ∃ s6 : NS, (s5.put (1 * 21 + 2) ⟨A6, c6, (s5.ways (1 * 21 + 2)).ps ++ [((b, A7, c7), false)]⟩) = s6 ∧ (s6.ways 23).ps = [((b, A2, c2), false), ((b, A7, c7), false)] := ⟨_, rfl, by rw [NS.put_same]; show (s5.ways 23).ps ++ _ = _; rw [unhide HW5]; rfl⟩
       rw [hs6] at hst
       have HW6 := hide hw6; have HE6 := hide ((unhide HE5).step hst); clear hst hs6 hw6)
    | (go_at_call 16; refine (spoil_two w.heap.size w.heap.size s6 _ _ at_ m w6 (unhide HE6).mine.at_ (unhide HW6) rfl).mono ?_; rintro _ w7 ⟨er, s7, rfl, her, hst, hx7⟩
       have HER := hide her; have HX7 := hide hx7; have HE7 := hide ((unhide HE6).step hst); clear her hx7 hst)
    | (go_at_call 17; refine (look_yes w.heap.size w.heap.size s7 1 2 0 _ w7 (unhide HE7).mine.at_ (by omega) (by omega) (by omega) (unhide HX7)).mono ?_; rintro _ w8 ⟨A8, c8, rfl, ho8, hb8⟩
       have HO8 := hide (ho8.alloc (.cells #[.slice none 0 0, .bool false] 36)); have HOL := hide (fun k hk => (ho8.lt k hk).2); have HM8 := hide (((Mem.start w7).called hb8).new (t := 36) (cs := #[.slice none 0 0, .bool false]) w8.heap.size rfl); clear ho8 hb8)
    | (refine wpList_store_blk rfl 36 (.tmp 10) (.tmp 45) rfl (w8.heap.size) _ (by rfl) (by rfl) 36 _ (unhide HM8).blk0 (by kernel_rfl) (by rfl) (by simp [Value.oneCell']) ?_; intro w9 hbS hgS; have HM9 := hide ((unhide HM8).grown0 hbS hgS); have HGw9 := hide hgS; clear hbS hgS))
  have HO9 : Hid (w9.ownsRow w7.heap.size 5 1 (.slice A8 b.length c8) b.length (b.map Bv)) := hide ((unhide HO8).kept (unhide HGw9) (.inr fun e => Nat.lt_irrefl _ ((unhide HOL) _ e)))
  have HE9 := hide ((unhide HE7).new (unhide HM9).below)
  clear HO8 HE4 HE5 HE6 HM1 HOn HV1 HW5 HW6 HM8 HGw9
  go_wp2_with fail
  go_loopw [49] (fun i wr => ∃ (k : Nat) (y : List UInt8), k ≤ b.length ∧ i = .int .i64 k ∧ y.length = b.length ∧ wr.ownsRow w.heap.size 5 1 (.slice A4 b.length c4) b.length (y.map Bv) ∧ Only (fun j => (Value.slice A4 b.length c4).ownBlock = some j) w9 wr) (fun i _ => b.length - (intOf i).toNat)
  case atStart => exact ⟨0, b, Nat.zero_le _, rfl, rfl, (unhide HE9).own, Only.refl _ _⟩
  case round =>
    obtain ⟨k, y, hk, rfl, hyl, hrow, hon⟩ := hrel
    by_cases hlt : k < b.length
    · obtain ⟨g, cap, hv, _, _⟩ := hrow.form (by omega)
      obtain rfl : A4 = some ⟨g, 0, none⟩ := by injection hv
      have hcell := own_cellAt hrow k hlt hyl
      have hfz := hrow.frozenAt k
      have HRow := hide hrow; have HON := hide hon
      have HXO := hide (xor_255 (y[k]'(by omega)))
      clear hrow hon
      go_wp2_with fail
      go_roundw
      case rel => exact ⟨k + 1, y.set k (y[k]'(by omega) ^^^ 255), by omega, by go_num, by rw [List.length_set]; exact hyl, by
          have := ((unhide HRow).stored k (Bv (y[k]'(by omega) ^^^ 255))).1
          rw [← List.map_set] at this
          rw [unhide HXO]
          exact this, (unhide HON).setCell (p := ⟨g, k, none⟩) rfl _⟩
      case measure => simp [intOf]; omega
    · obtain rfl : k = b.length := by omega
      obtain ⟨w10, hw10⟩ : ∃ u : World, u = wr := ⟨wr, rfl⟩
      subst hw10
      have hml : ∀ j, (Value.slice A4 b.length c4).ownBlock = some j → w.heap.size ≤ j ∧ j < w7.heap.size := fun j hj => (unhide HE7).own.lt j hj
      have HON := hide hon
      have hs78 : w7.heap.size ≤ w8.heap.size := by have := (unhide HM9).ge _ (List.mem_cons_self ..); exact this
      have hk10 : Blk w10 w8.heap.size 36 #[.slice A8 b.length c8, .bool false] := (unhide HM9).blk0.only hon fun hS => by have := (hml _ hS).2; omega
      have HK10 := hide hk10
      have HO10 := hide (own_only (unhide HO9) hon fun g hg hS => by have h1 := ((unhide HO9).lt g hg).1; have := (hml _ hS).2; omega)
      have HML := hide hml
      have fp0 := (pkAt hk10).1
      clear hrow hon hk10 hml
      go_wp2_with fail
      go_loopw [62] (fun i wr => ∃ (k : Nat) (y : List UInt8), k ≤ b.length ∧ i = .int .i64 k ∧ y.length = b.length ∧ wr.ownsRow w7.heap.size 5 1 (.slice A8 b.length c8) b.length (y.map Bv) ∧ Only (fun j => (Value.slice A8 b.length c8).ownBlock = some j) w10 wr) (fun i _ => b.length - (intOf i).toNat)
      case atStart => exact ⟨0, b, Nat.zero_le _, rfl, rfl, unhide HO10, Only.refl _ _⟩
      case round =>
        obtain ⟨k, y, hk, rfl, hyl, hrow, hon⟩ := hrel
        have hkr : Blk wr w8.heap.size 36 #[.slice A8 b.length c8, .bool false] := (unhide HK10).only hon fun hS => by
          have h1 := (own_blk hrow hS)
          obtain ⟨cur, h1⟩ := h1
          obtain ⟨cur2, h2⟩ := own_blk (unhide HO10) hS
          exact absurd (blk_type h2 (unhide HK10)) (by decide)
        have fp0 := (pkAt hkr).1
        clear hkr
        by_cases hlt : k < b.length
        · obtain ⟨g, cap, hv, _, _⟩ := hrow.form (by omega)
          obtain rfl : A8 = some ⟨g, 0, none⟩ := by injection hv
          have hcell := own_cellAt hrow k hlt hyl
          have hfz := hrow.frozenAt k
          have HRow := hide hrow; have HON2 := hide hon
          have HXO := hide (xor_255 (y[k]'(by omega)))
          clear hrow hon
          go_wp2_with fail
          go_roundw
          case rel => exact ⟨k + 1, y.set k (y[k]'(by omega) ^^^ 255), by omega, by go_num, by rw [List.length_set]; exact hyl, by
              have := ((unhide HRow).stored k (Bv (y[k]'(by omega) ^^^ 255))).1
              rw [← List.map_set] at this
              rw [unhide HXO]
              exact this, (unhide HON2).setCell (p := ⟨g, k, none⟩) rfl _⟩
          case measure => simp [intOf]; omega
        · obtain rfl : k = b.length := by omega
          obtain ⟨w11, hw11⟩ : ∃ u : World, u = wr := ⟨wr, rfl⟩
          subst hw11
          have hn11 : NetAt w11 w.heap.size w.heap.size s7 := ((unhide HE9).mine.at_.only (unhide HON) fun g hg hS => (unhide HE9).free g hS hg).only hon fun g hg hS => by
            have h1 := ((unhide HO10).lt g hS).1
            have h2 := ((unhide HE7).mine.at_.foot hg).2
            omega
          have hb11 : Below w.heap.size w w11 := ((unhide HE9).mine.below.trans ((unhide HON).below (B := w.heap.size) (unhide HE9).mine.below.size (fun j hj => ((unhide HML) j hj).1))).trans (hon.below (B := w.heap.size) (by
            have h1 := (unhide HE9).mine.below.size
            have h2 := (unhide HON).size
            omega) (fun j hj => by have h1 := ((unhide HO10).lt j hj).1; have h2 := (unhide HE7).mine.below.size; omega))
          have HTK := hide (take_yes w.heap.size w.heap.size s7 1 2 0 _ w11 hn11 (by omega) (by omega) (by omega) (unhide HX7))
          have HM11 : Hid (Mine w w11 w.heap.size s7) := hide ⟨hn11, hb11⟩
          have her := unhide HER
          have HSM := hide (fun (u : World) (A9 : Option Addr) (c9 : Nat) (h1 : RdB u u.heap.size A9 b) (h2 : RdB u w.heap.size A b) => same_any b b A9 A c9 c u.heap.size w.heap.size u h1 h2)
          clear hrow hon hn11 hb11 HON HO10 HK10 HML HE9 HE7 HX7 HER HM9 HO9
          by_cases q1 : 0 ≤ at_
          · have g1 : decide ((0 : Int) ≤ at_) = true := decide_eq_true q1
            by_cases q2 : at_ < (b.length : Int)
            · have g2 : decide (at_ < (b.length : Int)) = true := decide_eq_true q2
              by_cases q3 : m = 0
              · have g3 : ((m.toNat : Int) != 0) = false := by rw [q3]; rfl
                have g3' : ((m.toNat : Int) == 0) = true := by rw [q3]; rfl
                have g4 : (er == 0) = false := beq_eq_false_iff_ne.2 fun e => (her.1 e).2.2 q3
                clear her q1 q2 q3
                go_wp2_with (first
                  | (go_at_call 18; refine (unhide HTK).mono ?_; rintro _ w12 ⟨A9, c9, A10, c10, rfl, hst, ho12⟩
                     have HM12 := hide ((unhide HM11).step hst); have HO12 := hide (ho12.alloc (.cells #[.slice none 0 0, .bool false] 36)); have HOL2 := hide (fun k hk => (ho12.lt k hk).2); have HQ12 := hide ((Mem.start w12).new (t := 36) (cs := #[.slice none 0 0, .bool false]) w12.heap.size rfl); clear hst ho12)
                  | (refine wpList_store_blk rfl 36 (.tmp 14) (.tmp 76) rfl (w12.heap.size) _ (by rfl) (by rfl) 36 _ (unhide HQ12).blk0 (by kernel_rfl) (by rfl) (by simp [Value.oneCell']) ?_; intro w13 hbS hgS; have HQ13 := hide ((unhide HQ12).grown0 hbS hgS); have HGw13 := hide hgS; clear hbS hgS
                     have HO13 := hide ((unhide HO12).kept (unhide HGw13) (.inr fun e => Nat.lt_irrefl _ ((unhide HOL2) _ e))); have HB13 := hide ((unhide HM12).below.trans ((unhide HQ13).below.mono (unhide HM12).below.size)))
                  | (go_at_call 10; refine (unhide HA _).mono ?_; rintro _ w14 ⟨rfl, hb14⟩
                     have HB14 := hide ((unhide HB13).trans (hb14.mono (unhide HB13).size)); have HO14 := hide (own_only (unhide HO13) (Only.of_new (S := fun _ => False) hb14) (fun _ _ h => h)); have fq := pkAt ((unhide HQ13).called hb14).blk0; clear hb14)
                  | (go_at_call 19; refine (unhide HSM _ _ _ (RdB.of_own (unhide HO14)) ((unhide HR).below (unhide HB14))).mono ?_; rintro _ w15 ⟨rfl, rfl⟩; rw [beq_self_eq_true]))
                go_ret
                exact ⟨rfl, unhide HB14⟩
              · have g3' : ((m.toNat : Int) == 0) = false := beq_eq_false_iff_ne.2 (fun e => q3 (UInt8.toNat_inj.1 (by simpa using e)))
                have g3 : ((m.toNat : Int) != 0) = true := by rw [bne, g3']; rfl
                have g4 : (er == 0) = true := beq_iff_eq.2 (her.2 ⟨q1, q2, q3⟩)
                clear her q1 q2 q3
                go_wp2_with (first
                  | (go_at_call 18; refine (unhide HTK).mono ?_; rintro _ w12 ⟨A9, c9, A10, c10, rfl, hst, ho12⟩
                     have HM12 := hide ((unhide HM11).step hst); have HO12 := hide (ho12.alloc (.cells #[.slice none 0 0, .bool false] 36)); have HOL2 := hide (fun k hk => (ho12.lt k hk).2); have HQ12 := hide ((Mem.start w12).new (t := 36) (cs := #[.slice none 0 0, .bool false]) w12.heap.size rfl); clear hst ho12)
                  | (refine wpList_store_blk rfl 36 (.tmp 14) (.tmp 76) rfl (w12.heap.size) _ (by rfl) (by rfl) 36 _ (unhide HQ12).blk0 (by kernel_rfl) (by rfl) (by simp [Value.oneCell']) ?_; intro w13 hbS hgS; have HQ13 := hide ((unhide HQ12).grown0 hbS hgS); have HGw13 := hide hgS; clear hbS hgS
                     have HO13 := hide ((unhide HO12).kept (unhide HGw13) (.inr fun e => Nat.lt_irrefl _ ((unhide HOL2) _ e))); have HB13 := hide ((unhide HM12).below.trans ((unhide HQ13).below.mono (unhide HM12).below.size)))
                  | (go_at_call 10; refine (unhide HA _).mono ?_; rintro _ w14 ⟨rfl, hb14⟩
                     have HB14 := hide ((unhide HB13).trans (hb14.mono (unhide HB13).size)); have HO14 := hide (own_only (unhide HO13) (Only.of_new (S := fun _ => False) hb14) (fun _ _ h => h)); have fq := pkAt ((unhide HQ13).called hb14).blk0; clear hb14)
                  | (go_at_call 19; refine (unhide HSM _ _ _ (RdB.of_own (unhide HO14)) ((unhide HR).below (unhide HB14))).mono ?_; rintro _ w15 ⟨rfl, rfl⟩; rw [beq_self_eq_true]))
                go_ret
                exact ⟨rfl, unhide HB14⟩
            · have g2 : decide (at_ < (b.length : Int)) = false := decide_eq_false q2
              have g4 : (er == 0) = false := beq_eq_false_iff_ne.2 fun e => q2 (her.1 e).2.1
              clear her q1 q2
              go_wp2_with (first
                | (go_at_call 18; refine (unhide HTK).mono ?_; rintro _ w12 ⟨A9, c9, A10, c10, rfl, hst, ho12⟩
                   have HM12 := hide ((unhide HM11).step hst); have HO12 := hide (ho12.alloc (.cells #[.slice none 0 0, .bool false] 36)); have HOL2 := hide (fun k hk => (ho12.lt k hk).2); have HQ12 := hide ((Mem.start w12).new (t := 36) (cs := #[.slice none 0 0, .bool false]) w12.heap.size rfl); clear hst ho12)
                | (refine wpList_store_blk rfl 36 (.tmp 14) (.tmp 76) rfl (w12.heap.size) _ (by rfl) (by rfl) 36 _ (unhide HQ12).blk0 (by kernel_rfl) (by rfl) (by simp [Value.oneCell']) ?_; intro w13 hbS hgS; have HQ13 := hide ((unhide HQ12).grown0 hbS hgS); have HGw13 := hide hgS; clear hbS hgS
                   have HO13 := hide ((unhide HO12).kept (unhide HGw13) (.inr fun e => Nat.lt_irrefl _ ((unhide HOL2) _ e))); have HB13 := hide ((unhide HM12).below.trans ((unhide HQ13).below.mono (unhide HM12).below.size)))
                | (go_at_call 10; refine (unhide HA _).mono ?_; rintro _ w14 ⟨rfl, hb14⟩
                   have HB14 := hide ((unhide HB13).trans (hb14.mono (unhide HB13).size)); have HO14 := hide (own_only (unhide HO13) (Only.of_new (S := fun _ => False) hb14) (fun _ _ h => h)); have fq := pkAt ((unhide HQ13).called hb14).blk0; clear hb14)
                | (go_at_call 19; refine (unhide HSM _ _ _ (RdB.of_own (unhide HO14)) ((unhide HR).below (unhide HB14))).mono ?_; rintro _ w15 ⟨rfl, rfl⟩; rw [beq_self_eq_true]))
              go_ret
              exact ⟨rfl, unhide HB14⟩
          · have g1 : decide ((0 : Int) ≤ at_) = false := decide_eq_false q1
            have g4 : (er == 0) = false := beq_eq_false_iff_ne.2 fun e => q1 (her.1 e).1
            clear her q1
            go_wp2_with (first
              | (go_at_call 18; refine (unhide HTK).mono ?_; rintro _ w12 ⟨A9, c9, A10, c10, rfl, hst, ho12⟩
                 have HM12 := hide ((unhide HM11).step hst); have HO12 := hide (ho12.alloc (.cells #[.slice none 0 0, .bool false] 36)); have HOL2 := hide (fun k hk => (ho12.lt k hk).2); have HQ12 := hide ((Mem.start w12).new (t := 36) (cs := #[.slice none 0 0, .bool false]) w12.heap.size rfl); clear hst ho12)
              | (refine wpList_store_blk rfl 36 (.tmp 14) (.tmp 76) rfl (w12.heap.size) _ (by rfl) (by rfl) 36 _ (unhide HQ12).blk0 (by kernel_rfl) (by rfl) (by simp [Value.oneCell']) ?_; intro w13 hbS hgS; have HQ13 := hide ((unhide HQ12).grown0 hbS hgS); have HGw13 := hide hgS; clear hbS hgS
                 have HO13 := hide ((unhide HO12).kept (unhide HGw13) (.inr fun e => Nat.lt_irrefl _ ((unhide HOL2) _ e))); have HB13 := hide ((unhide HM12).below.trans ((unhide HQ13).below.mono (unhide HM12).below.size)))
              | (go_at_call 10; refine (unhide HA _).mono ?_; rintro _ w14 ⟨rfl, hb14⟩
                 have HB14 := hide ((unhide HB13).trans (hb14.mono (unhide HB13).size)); have HO14 := hide (own_only (unhide HO13) (Only.of_new (S := fun _ => False) hb14) (fun _ _ h => h)); have fq := pkAt ((unhide HQ13).called hb14).blk0; clear hb14)
              | (go_at_call 19; refine (unhide HSM _ _ _ (RdB.of_own (unhide HO14)) ((unhide HR).below (unhide HB14))).mono ?_; rintro _ w15 ⟨rfl, rfl⟩; rw [beq_self_eq_true]))
            go_ret
            exact ⟨rfl, unhide HB14⟩
end Go.Proofs.Ytbclfiollfagmaa
