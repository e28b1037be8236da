/- The walks of num and of the document's num: writing short numbers; are they the same bytes. -/
import Derived.Test.YtbiinlkdgankkaaNumTake
namespace Go.Proofs.Ytbiinlkdgankkaa
set_option linter.unusedVariables false
open Go.RowKit

theorem u8info : (Try.prog.info? 5).map (fun i => (i.zero, i.size, i.bytes)) = some (some (.int .u8 0), 1, 1) := by kernel_rfl

/-- the call answers new bytes: l -/
def FreshB (w : World) (l : List UInt8) (e : Ending) (w' : World) : Prop :=
  ∃ A c, e = .returned (.slice A l.length c) ∧ w'.ownsRow w.heap.size 5 1 (.slice A l.length c) l.length (l.map Bv) ∧ Below w.heap.size w w' ∧ l.length ≤ c

theorem Num.or128 {m : Nat} : bits BinOp.or IntKind.u8 ((m : Int) % 256) 128 = ((UInt8.ofNat (m % 128 + 128)).toNat : Int) := by
  have h := u8_or_nat (m % 256) 128 (by omega) (by omega)
  rw [Num.toNat_ofNat_small (by omega)]
  have e1 : ((m : Int) % 256) = ((m % 256 : Nat) : Int) := by omega
  rw [e1]
  refine Eq.trans h (congrArg Int.ofNat ?_)
  have hb : ∀ r : Fin 256, r.val ||| 128 = r.val % 128 + 128 := by decide +kernel
  have := hb ⟨m % 256, by omega⟩
  simp only at this
  rw [this]
  omega
theorem Num.low8 {m : Nat} : ((m : Int) % 256) = ((UInt8.ofNat m).toNat : Int) := by
  rw [UInt8.toNat_ofNat']
  omega

set_option maxHeartbeats 1000000 in
set_option maxRecDepth 20000 in
theorem uvar_any (n : Nat) (w : World) (hn : n < 18446744073709551616) :
    Calls Try.prog 15 #[.int .u64 (n : Int)] w (FreshB w (Num.uv n)) := by
  obtain ⟨i0, hi, hz0, hz1, hz2⟩ := info_parts u8info
  have hlen := hide (Num.uv_len64 hn)
  go_enter Try.func15, Try.ntmps15
  go_wp2
  go_loopw [0, 3] (fun t o wr => ∃ (m : Nat) (A : Option Addr) (c : Nat) (pre : List UInt8), m ≤ n ∧ Num.uv n = pre ++ Num.uv m ∧ t = .int .u64 (m : Int) ∧ o = .slice A pre.length c ∧
      wr.ownsRow w.heap.size 5 1 (.slice A pre.length c) pre.length (pre.map Bv) ∧ Below w.heap.size w wr) (fun t _ _ => (intOf t).toNat)
  case atStart => exact ⟨n, none, 0, [], Nat.le_refl _, rfl, rfl, rfl, own_nil _ _ _ _, Below.refl _ _⟩
  case round =>
    obtain ⟨m, A, c, pre, hmn, hu, rfl, rfl, hown, hbel⟩ := hrel
    have hpl : pre.length ≤ 10 := by
      have h := unhide hlen
      rw [hu, List.length_append] at h
      omega
    have HU := hide hu
    have HB := hide hbel
    have hsz := hbel.size
    clear hu hbel hlen
    rcases Nat.lt_or_ge m 128 with hm | hm
    · go_wp2_with (at_builtin
                   refine wpList_append_any _ rfl (.tmp 14) (.tmp 17) _ rfl w.heap.size 5 i0 _ 1 1 Try.underlying23 hi hz0 hz1 hz2 rfl (by omega) _ pre.length _ rfl
                     (hown.alloc _) _ _ 1 1 _ rfl (RdV.one wr _ _ _) rfl (by intro u hu; simp at hu; subst hu; rfl) (by simp only [maxLen]; omega) (by omega) (by simp; omega) ?_
                   intro A1 c1 w1 hown1 _ _ hbel1 hcc)
      go_ret
      have e : Num.uv n = pre ++ [UInt8.ofNat m] := by rw [unhide HU, Num.uv_small hm]
      refine ⟨A1, c1, ?_, ?_, ((unhide HB).alloc hsz _).trans hbel1, by rw [e]; simpa using hcc⟩
      · rw [e, List.length_append]; rfl
      · have hl : (Num.uv n).length = pre.length + 1 := by rw [e]; simp
        rw [hl, e, List.map_append]
        have hv : Bv (UInt8.ofNat m) = .int .u8 (m : Int) := by unfold Bv; rw [Num.toNat_ofNat_small (by omega)]
        rw [List.map_singleton, hv]
        exact hown1
    · go_wp2_with (at_builtin
                   refine wpList_append_any _ rfl (.tmp 6) (.tmp 10) _ rfl w.heap.size 5 i0 _ 1 1 Try.underlying23 hi hz0 hz1 hz2 rfl (by omega) _ pre.length _ rfl
                     (hown.alloc _) _ _ 1 1 _ rfl (RdV.one wr _ _ _) rfl (by intro u hu; simp at hu; subst hu; rfl) (by simp only [maxLen]; omega) (by omega) (by simp; omega) ?_
                   intro A1 c1 w1 hown1 _ _ hbel1 hcc)
      have hv : Bv (UInt8.ofNat (m % 128 + 128)) = .int .u8 (bits BinOp.or IntKind.u8 ((m : Int) % 256) 128) := by unfold Bv; rw [Num.or128]
      refine ⟨⟨m / 128, A1, c1, pre ++ [UInt8.ofNat (m % 128 + 128)], by omega, ?_, by go_num, by rw [List.length_append]; rfl, ?_, ((unhide HB).alloc hsz _).trans hbel1⟩, by simp [intOf]; omega⟩
      · rw [unhide HU, Num.uv_big hm, List.append_assoc]; rfl
      · rw [List.length_append, List.map_append, List.map_singleton, hv]
        exact hown1

set_option maxRecDepth 20000 in
theorem refUvar_any (f : Nat) : ∀ (n : Nat) (w : World), n ≤ f → n < 18446744073709551616 →
    Calls Try.prog 16 #[.int .u64 (n : Int)] w (FreshB w (Num.uv n)) := by
  obtain ⟨i0, hi, hz0, hz1, hz2⟩ := info_parts u8info
  induction f with
  | zero =>
    intro n w hf hn
    obtain rfl : n = 0 := by omega
    go_enter Try.func16, Try.ntmps16
    go_wp2_with fail
    go_ret
    exact ⟨_, _, rfl, own_new w _ _ _ 1 _ (Nat.le_refl _) (by simp [maxLen]) rfl rfl, (Below.refl _ _).alloc (Nat.le_refl _) _, Nat.le_refl _⟩
  | succ f ih =>
    intro n w hf hn
    rcases Nat.lt_or_ge n 128 with hm | hm
    · have HE := hide (Num.uv_small hm)
      have HV : Hid (Bv (UInt8.ofNat n) = .int .u8 (n : Int)) := by show Bv _ = _; unfold Bv; rw [Num.toNat_ofNat_small (by omega)]
      go_enter Try.func16, Try.ntmps16
      go_wp2_with fail
      go_ret
      show FreshB _ _ _ _
      rw [unhide HE]
      exact ⟨_, _, rfl, own_new w _ _ _ 1 _ (Nat.le_refl _) (by simp [maxLen]) rfl (by rw [List.map_singleton, unhide HV]), (Below.refl _ _).alloc (Nat.le_refl _) _, Nat.le_refl _⟩
    · have HL := hide (Num.uv_len64 (show n / 128 < 18446744073709551616 by omega))
      have HE := hide (Num.uv_big hm)
      have HV : Hid (Bv (UInt8.ofNat (n % 128 + 128)) = .int .u8 ((n : Int) % 128 + 128)) := by show Bv _ = _; unfold Bv; rw [Num.toNat_ofNat_small (by omega)]; congr 1
      have HI := hide (fun w => ih (n / 128) w (by omega) (by omega))
      clear ih
      go_enter Try.func16, Try.ntmps16
      go_wp2_with fail
      have e : ((n : Int) / 128) = ((n / 128 : Nat) : Int) := by omega
      rw [e]
      refine (unhide HI _).mono ?_
      rintro e1 w1 ⟨A1, c1, rfl, hown, hbel, hcc⟩
      have hown0 := own_below (own_new w w.heap.size #[Value.int IntKind.u8 ((n : Int) % 128 + 128)] 5 1 _ (Nat.le_refl _) (by simp [maxLen]) rfl rfl) hbel (by intro k hk; simp [Value.ownBlock] at hk; simp; omega)
      have hl10 := unhide HL
      have hsz : w.heap.size ≤ w1.heap.size := by have := hbel.size; simp at this; omega
      have HB := hide (((Below.refl _ _).alloc (Nat.le_refl _) _).trans (hbel.mono (by simp)))
      have HR := hide (RdV.of_own hown)
      clear e hbel hcc hown
      go_wp2_with (at_builtin
                   refine wpList_append_any _ rfl (.tmp 12) (.tmp 15) _ rfl w.heap.size 5 i0 _ 1 1 Try.underlying23 hi hz0 hz1 hz2 rfl (by omega) _ 1 _ rfl
                     hown0 _ A1 _ c1 _ rfl (unhide HR) (by simp) oneCell_Bv (by simp only [maxLen]; omega) (by omega) hsz ?_
                   intro A2 c2 w2 hown2 _ _ hbel2 hcc2)
      go_ret
      show FreshB _ _ _ _
      rw [unhide HE]
      have hl : (UInt8.ofNat (n % 128 + 128) :: Num.uv (n / 128)).length = 1 + (Num.uv (n / 128)).length := by rw [List.length_cons]; omega
      refine ⟨A2, c2, by rw [hl]; rfl, ?_, (unhide HB).trans hbel2, by rw [hl]; exact hcc2⟩
      rw [hl, List.map_cons, unhide HV]
      exact hown2

set_option maxHeartbeats 1000000 in
theorem same_any (a b : List UInt8) (A B : Option Addr) (ca cb Ba Bb : Nat) (w : World) (ha : RdB w Ba A a) (hb : RdB w Bb B b) :
    Calls Try.prog 14 #[.slice A a.length ca, .slice B b.length cb] w fun e w' => e = .returned (.bool (a == b)) ∧ w = w' := by
  have ea := run_str (P := Try.prog) ca ha Try.underlying23 Try.underlying5 Try.underlying9
  have eb := run_str (P := Try.prog) cb hb Try.underlying23 Try.underlying5 Try.underlying9
  go_enter Try.func14, Try.ntmps14
  go_wp2_with fail
  go_ret
  exact ⟨rfl, rfl⟩
theorem same_n (a b : List UInt8) (A B : Option Addr) (na nb ca cb Ba Bb : Nat) (w : World) (ha : RdB w Ba A a) (hb : RdB w Bb B b) (hla : a.length = na) (hlb : b.length = nb) :
    Calls Try.prog 14 #[.slice A na ca, .slice B nb cb] w fun e w' => e = .returned (.bool (a == b)) ∧ w = w' := by
  subst hla
  subst hlb
  exact same_any a b A B ca cb Ba Bb w ha hb
theorem takeUvar_n (l : List UInt8) (A : Option Addr) (n c B : Nat) (w : World) (hr : RdB w B A l) (hn : l.length = n) (hl : n ≤ 4611686018427387904) :
    Calls Try.prog 11 #[.slice A n c] w fun e w' => e = .returned (.tuple #[.int .u64 ((Num.take l).1 : Int), .int .i64 ((Num.take l).2.1 : Int), .int .i64 (Num.take l).2.2]) ∧ w = w' := by
  subst hn
  exact takeUvar_any l A c B w hr hl

set_option maxHeartbeats 1000000 in
theorem awake_any (w : World) :
    Calls Try.prog 13 #[] w fun e w' => e = .returned (.bool true) ∧ Below w.heap.size w w' := by
  have H300 := hide (uvar_any 300 w (by omega))
  have HT : Hid (Num.take (Num.uv 300) = (300, 2, 0)) := by show _ = _; decide +kernel
  have HL : Hid ((Num.uv 300).length = 2) := by show _ = _; decide +kernel
  go_enter Try.func13, Try.ntmps13
  go_wp2_with fail
  refine (unhide H300).mono ?_
  rintro e w1 ⟨A, c, rfl, hown, hbel, hcc⟩
  have HR := hide (RdB.of_own hown)
  have HB := hide hbel
  clear hown hbel hcc
  rw [unhide HL]
  go_wp2_with fail
  refine (takeUvar_n (Num.uv 300) A 2 c _ w1 (unhide HR) (unhide HL) (by omega)).mono ?_
  rintro e w2 ⟨rfl, rfl⟩
  rw [unhide HT]
  go_wp2_with fail
  go_ret
  exact ⟨rfl, unhide HB⟩
end Go.Proofs.Ytbiinlkdgankkaa
