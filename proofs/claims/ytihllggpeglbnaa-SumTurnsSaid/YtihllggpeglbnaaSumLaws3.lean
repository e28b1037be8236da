/- The walk of SumTurns. -/
import Derived.Test.YtihllggpeglbnaaSumLaws
import Derived.Test.YtihllggpeglbnaaFrame
namespace Go.Proofs.Ytihllggpeglbnaa
set_option linter.unusedVariables false
open Go.RowKit

def xor3 (a b c : List UInt8) : List UInt8 := Crc.xor2 (Crc.xor2 a b) c

theorem u8info : (Try.prog.info? 5).map (fun i => (i.zero, i.size, i.bytes)) = some (some (.int .u8 0), 1, 1) := by kernel_rfl

theorem xor_u32 (x y : BitVec 32) : bits BinOp.xor IntKind.u32 (x.toNat : Int) (y.toNat : Int) = ((x ^^^ y).toNat : Int) := by
  have hx := x.isLt
  have hy := y.isLt
  rw [u32_xor_nat _ _ (by omega) (by omega), BitVec.toNat_xor]
theorem xor_u8 (x y : UInt8) : bits BinOp.xor IntKind.u8 (x.toNat : Int) (y.toNat : Int) = ((x ^^^ y).toNat : Int) := by
  have hx := x.toNat_lt
  have hy := y.toNat_lt
  rw [u8_xor_nat _ _ (by omega) (by omega), UInt8.toNat_xor]

/-- what 'x' holds behind k rounds -/
def xrow (a b c : List UInt8) (n k : Nat) : List UInt8 := (xor3 a b c).take k ++ List.replicate (n - k) 0
theorem xor3_length (a b c : List UInt8) : (xor3 a b c).length = min (min a.length b.length) c.length := by simp [xor3, Crc.xor2_length]
theorem xrow_zero (a b c : List UInt8) (n : Nat) : ((xrow a b c n 0).map Bv).toArray = madeCells #[.int .u8 0] n := by
  have e := toList_madeCells_one (.int .u8 0) n
  have h : madeCells #[.int .u8 0] n = (List.replicate n (.int .u8 0)).toArray := by rw [← e]
  rw [h]
  simp [xrow, Bv]
theorem xrow_full (a b c : List UInt8) : xrow a b c (min (min a.length b.length) c.length) (min (min a.length b.length) c.length) = xor3 a b c := by
  rw [← xor3_length]; simp [xrow]
theorem xrow_set (a b c : List UInt8) (n k : Nat) (ha : k < a.length) (hb : k < b.length) (hc : k < c.length) (hn : k < n) :
    ((xrow a b c n k).map Bv).toArray.setIfInBounds k (Bv (a[k] ^^^ b[k] ^^^ c[k])) = ((xrow a b c n (k + 1)).map Bv).toArray := by
  have hx : k < (xor3 a b c).length := by rw [xor3_length]; omega
  apply Array.ext'
  rw [Array.toList_setIfInBounds]
  show ((xrow a b c n k).map Bv).set k _ = (xrow a b c n (k + 1)).map Bv
  rw [← List.map_set]
  congr 1
  unfold xrow
  have e1 : n - k = (n - (k + 1)) + 1 := by omega
  have e2 : (xor3 a b c).take (k + 1) = (xor3 a b c).take k ++ [(xor3 a b c)[k]] := List.take_succ_eq_append_getElem hx
  have e3 : (xor3 a b c)[k] = a[k] ^^^ b[k] ^^^ c[k] := by simp [xor3, Crc.xor2]
  rw [e1, List.replicate_succ, e2, e3, List.set_append_right _ _ (by simp; omega)]
  have e4 : k - ((xor3 a b c).take k).length = 0 := by simp; omega
  rw [e4]
  simp

set_option maxHeartbeats 400000 in
theorem sumTurns_walk (a b c : List UInt8) (A B C : Option Addr) (ca cb cc : Nat) (w : World) (ha : RdB w w.heap.size A a) (hb : RdB w w.heap.size B b) (hc : RdB w w.heap.size C c)
    (la : a.length ≤ ca) (lb : b.length ≤ cb) (lc : c.length ≤ cc) (ha' : ca ≤ 140737488351232) (hb' : cb ≤ 140737488351232) (hc' : cc ≤ 140737488351232) :
    Calls Try.prog 6 #[.slice A a.length ca, .slice B b.length cb, .slice C c.length cc] w fun e w' => e = .returned (.bool true) ∧ Below w.heap.size w w' := by
  obtain ⟨i0, hi, hz0, hz1, hz2⟩ := info_parts u8info
  have HX := hide (xrow_zero a b c (min (min a.length b.length) c.length))
  have HF := hide (xrow_full a b c)
  have na : min (min a.length b.length) c.length ≤ a.length := by omega
  have nb : min (min a.length b.length) c.length ≤ b.length := by omega
  have nc : min (min a.length b.length) c.length ≤ c.length := by omega
  have nn : min (min a.length b.length) c.length = a.length ∨ min (min a.length b.length) c.length = b.length ∨ min (min a.length b.length) c.length = c.length := by omega
  generalize min (min a.length b.length) c.length = n at na nb nc nn HX HF
  have NN := hide nn
  clear nn
  have hmk := fun u : World => run_make (P := Try.prog) u 23 5 i0 (.int .u8 0) Try.underlying23 hi hz0 .i64 .i64 (n : Int) (n : Int) (by omega) (Int.le_refl _) (by rw [hz2]; omega) (by omega)
  simp only [Int.toNat_natCast, hz1] at hmk
  go_enter Try.func6, Try.ntmps6
  go_upto_region 1 with fail
  go_cut [7] (fun s7 wx => s7 = .int .i64 (n : Int) ∧ w = wx)
  case first =>
    have nn := unhide NN
    go_wp2
    all_goals go_meet
    all_goals refine ⟨congrArg (Value.int .i64) ?_, rfl⟩
    all_goals (clear hmk; split at * <;> omega)
  case rest =>
    obtain ⟨rfl, rfl⟩ := hcut
    go_wp2
    go_loopw [21] (fun i wr => ∃ k : Nat, k ≤ n ∧ i = .int .i64 k ∧ Blk wr w.heap.size 5 ((xrow a b c n k).map Bv).toArray ∧ Below w.heap.size w wr) (fun i _ => n - (intOf i).toNat)
    case atStart =>
      refine ⟨0, Nat.zero_le _, rfl, ?_, (Below.refl _ _).alloc (Nat.le_refl _) _⟩
      rw [unhide HX]
      exact Blk.new _ _ _
    case round =>
      obtain ⟨k, hk, rfl, hblk, hbel⟩ := hrel
      by_cases hlt : k < n
      · obtain ⟨ad, rfl, hca⟩ := (ha.below hbel).at_ (k := k) (by omega)
        obtain ⟨bd, rfl, hcb⟩ := (hb.below hbel).at_ (k := k) (by omega)
        obtain ⟨cd, rfl, hcc⟩ := (hc.below hbel).at_ (k := k) (by omega)
        have hfz := hblk.frozen k
        obtain ⟨v0, hcx⟩ : ∃ v, wr.cell? ⟨w.heap.size, k, none⟩ = some v := ⟨_, (hblk.cell k).trans (Array.getElem?_eq_getElem (by simp [xrow, xor3_length]; omega))⟩
        have HB := hide hblk
        have HE := hide hbel
        clear hblk hbel
        go_wp2
        go_region
        go_wp2
        go_roundw
        case rel =>
          refine ⟨k + 1, by omega, by go_num, ?_, ((unhide HE).drew).setCell (by simp) _⟩
          rw [xor_u8, xor_u8, ← xrow_set a b c n k (by omega) (by omega) (by omega) hlt]
          exact (unhide HB).drew.set_ k _
        case measure => simp [intOf]; omega
      · obtain rfl : k = n := by omega
        rw [unhide HF] at hblk
        have hx : (xor3 a b c).length = k := by rw [xor3_length]; have := unhide NN; omega
        have H0 := hide fun x : SinceW wr.heap.size wr => calls_since_same x (of_n (xor3 a b c) (some ⟨w.heap.size, 0, none⟩) k k wr.heap.size x.w ((hblk.rdB.more hblk.lt).below x.h) hx (by omega))
        have H1 := hide fun x : SinceW wr.heap.size wr => calls_since_same x (of_n (a.take k) A k ca wr.heap.size x.w ((((ha.below hbel).more hbel.size).take k).below x.h) (by simp; omega) (by omega))
        have H2 := hide fun x : SinceW wr.heap.size wr => calls_since_same x (of_n (b.take k) B k cb wr.heap.size x.w ((((hb.below hbel).more hbel.size).take k).below x.h) (by simp; omega) (by omega))
        have H3 := hide fun x : SinceW wr.heap.size wr => calls_since_same x (of_n (c.take k) C k cc wr.heap.size x.w ((((hc.below hbel).more hbel.size).take k).below x.h) (by simp; omega) (by omega))
        have HS := hide hbel.size
        have HE := hide hbel
        clear hblk hbel ha hb hc hmk hx
        go_wp2
        refine wp_region_since (B := wr.heap.size) (by kernel_rfl) (by kernel_rfl) ?_
        repeat (go_big_quiet_step ((first
          | (go_at_call 7; exact calls_since _ (Nat.le_refl _) (awake_any _))
          | (with_reducible exact unhide H0 _) | (with_reducible exact unhide H1 _) | (with_reducible exact unhide H2 _) | (with_reducible exact unhide H3 _))))
        refine wpQuiet_nil ?_
        rintro _ ⟨⟨w1, hb1⟩, rfl⟩
        go_wp2
        go_ret
        refine ⟨ret_eq (congrArg Value.bool ?_), (unhide HE).trans (hb1.mono (unhide HS))⟩
        have hn := unhide NN
        have e0 : xor3 a b c = Crc.xor2 (Crc.xor2 (a.take k) (b.take k)) (c.take k) := by
          unfold xor3
          apply List.ext_getElem
          · simp only [Crc.xor2_length, List.length_take]; omega
          · intro i h1 h2
            simp [Crc.xor2]
        rw [e0, Crc.more_xor3 _ _ _ (by simp; omega) (by simp; omega), xor_u32, xor_u32]
        simp
end Go.Proofs.Ytihllggpeglbnaa
