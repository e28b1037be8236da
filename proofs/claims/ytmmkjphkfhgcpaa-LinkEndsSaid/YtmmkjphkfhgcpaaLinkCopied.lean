/- link.copied: new bytes. -/
import Derived.Test.YtmmkjphkfhgcpaaNumWrite
import Derived.Test.YtmmkjphkfhgcpaaMemLow
import Derived.Laws.CopyOwn
namespace Go.Proofs.Ytmmkjphkfhgcpaa
set_option linter.unusedVariables false
open Go.RowKit

theorem own_blk {w : World} {base g : Nat} {t : TypeId} {n : Nat} {xs : List Value} (h : Blk w g t xs.toArray) (hb : base ≤ g) (hm : n ≤ maxLen) (hx : xs.length = n) : w.ownsRow base t 1 (.slice (some ⟨g, 0, none⟩) n n) n xs :=
  ⟨by simpa using hx, .inr ⟨g, n, _, rfl, hb, h, Nat.le_refl _, hm, by simpa using hx, by simp [List.take_of_length_le, hx]⟩⟩
theorem made_zero (n : Nat) : madeCells #[.int .u8 0] n = (List.replicate n (Value.int .u8 0)).toArray := by
  rw [← toList_madeCells_one (.int .u8 0) n]
theorem splice_all {n : Nat} {l : List Value} (h : l.length = n) : splice (List.replicate n (Value.int .u8 0)) 0 l = l := by
  simp [splice, h]

set_option maxHeartbeats 1000000 in
theorem copied_any (b : List UInt8) (A : Option Addr) (c B : Nat) (w : World) (hr : RdB w B A b) (hB : B ≤ w.heap.size) (hb : b.length ≤ 140737488351232) :
    Calls Try.prog 27 #[.slice A b.length c] w (FreshB w b) := by
  obtain ⟨i0, hi, hz0, hz1, hz2⟩ := info_parts u8info
  have hmk := fun u : World => run_make (P := Try.prog) u 22 5 i0 (.int .u8 0) Try.underlying22 hi hz0 .i64 .i64 (b.length : Int) (b.length : Int) (by omega) (Int.le_refl _) (by rw [hz2]; omega) (by omega)
  simp only [Int.toNat_natCast, hz1] at hmk
  have hsz : (Try.prog.info? 5).map (·.size) = some 1 := by rw [hi]; simp [hz1]
  have HX := hide (hr.alloc hB (.cells (madeCells #[Value.int .u8 0] b.length) 5))
  go_enter Try.func27, Try.ntmps27
  go_wp2_with (refine wpList_copy_splice rfl (.tmp 7) (.tmp 8) _ _ rfl 5 Try.underlying22 hsz _ _ b.length b.length b.length c rfl rfl w.heap.size 0 (List.replicate b.length (Value.int .u8 0)) 5 (by rw [← made_zero]; exact Blk.new _ _ _) (b.map Bv) (by simp)
                 (fun hp => by obtain ⟨ad, e, _, hcl⟩ := (unhide HX).v (by simpa using hp); exact ⟨rfl, ad, e, hcl⟩) (by simp) oneCell_Bv w.heap.size w ((Below.refl _ w).alloc (Nat.le_refl _) _) (Nat.le_refl _) ?_
               intro w2 hrow hbel)
  go_ret
  have h := unhide hrow
  rw [splice_all (by simp)] at h
  exact ⟨some ⟨w.heap.size, 0, none⟩, b.length, rfl, own_blk h (Nat.le_refl _) (by simp only [maxLen]; omega) (by simp), hbel, Nat.le_refl _⟩
end Go.Proofs.Ytmmkjphkfhgcpaa
